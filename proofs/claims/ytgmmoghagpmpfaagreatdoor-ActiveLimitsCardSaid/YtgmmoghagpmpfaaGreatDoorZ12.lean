/- Chapter 27: the contract of Parse. A text is not too long; the library's variable MaxLen holds a number. -/
import Derived.Test.YtgmmoghagpmpfaaGreatDoorZ11
import Derived.Test.YtgmmoghagpmpfaaGreatDoorProg
import Derived.Test.YtgmmoghagpmpfaaGreatDoorZ02
import Derived.Test.YtgmmoghagpmpfaaGreatDoorZ05
import Derived.Test.YtgmmoghagpmpfaaGreatDoorZ04
import Derived.KernelRfl
import Derived.Test.YtgmmoghagpmpfaaGreatDoorZ08
import Derived.Test.YtgmmoghagpmpfaaGreatDoorZ10
namespace Go.Proofs.YtgmmoghagpmpfaaGreatDoor
open Go.RowKit Go.Maps Go.Sort

theorem insA_end {A : TA} {k : ByteArray} {v : Gv} (h : ∀ p ∈ A, gnC p.1 k < 0) : insA gnC A k v = A ++ [(k, v)] := by
  have e1 : ∀ (l : TA), (∀ p ∈ l, gnC p.1 k < 0) → l.takeWhile (fun p => decide (gnC p.1 k < 0)) = l ∧ l.dropWhile (fun p => decide (gnC p.1 k < 0)) = [] := by
    intro l
    induction l with
    | nil => exact fun _ => ⟨rfl, rfl⟩
    | cons p r ih =>
      intro hl
      obtain ⟨i1, i2⟩ := ih (fun q hq => hl q (List.mem_cons_of_mem _ hq))
      have hp := hl p List.mem_cons_self
      rw [List.takeWhile_cons, List.dropWhile_cons, if_pos (by simpa using hp), if_pos (by simpa using hp), i1, i2]
      exact ⟨rfl, rfl⟩
  unfold insA
  rw [(e1 A h).1, (e1 A h).2]
theorem ksort_last {A : TA} (h : KSort gnC A) {k : ByteArray} (hb : ∀ p, A.getLast? = some p → gnC p.1 k < 0) : ∀ p ∈ A, gnC p.1 k < 0 := by
  have := ksort_snoc (g := (k, (⟨0, false, []⟩ : Gv))) h hb
  intro p hp
  exact (List.pairwise_append.1 this).2.2 p hp _ (List.mem_singleton.2 rfl)
set_option maxHeartbeats 2000000 in
theorem acparse_any (s : ByteArray) (w : World) (hs : s.size ≤ 1048576) (hw : 0 < w.heap.size) (hG : GW w) :
    Calls Tryz.prog 13 #[.string s] w fun e w' => (match parseT s with
      | .inl A => ∃ b mb m, e = .returned (.tuple #[.pointer (some ⟨b, 0, none⟩), .int .i64 0, .int .i64 0]) ∧ Tq w' w.heap.size b mb m A
      | .inr (n, er) => e = .returned (.tuple #[.pointer none, .int .i64 (n : Nat), .int .i64 er]) ∧ er ≠ 0) ∧ K0 w w' := by
  refine vc_acparse s w _ (bsp_intro (fun h => by simp at h; omega) (fun _ => ⟨(acnew_any w hw).mono fun e w1 ⟨⟨b, mb, he, hT⟩, k1⟩ => ⟨_, he, .of_k0 k1, ?_⟩⟩))
  refine ⟨fun vs w' => ∃ (A : TA) (m : TM) (f : Nat) (bf rest : ByteArray), vs = [.pointer (some ⟨b, 0, none⟩), .string bf, .string rest, .int .i64 (A.length : Nat)] ∧ Tq w' w.heap.size b mb m A ∧ parseT s = parseA f rest (A.length + 1) bf A ∧ rest.size < f ∧ rest.size ≤ s.size ∧ bf.size ≤ 1048576 ∧ (∀ p, A.getLast? = some p → bf = p.1) ∧ K0 w w',
    fun vs _ => (match vs with | [_, _, .string r, _] => r.size | _ => 0), ⟨[], [], s.size + 1, ⟨#[]⟩, s, rfl, hT, rfl, by omega, by omega, by show 0 ≤ 1048576; omega, (fun p hp => by cases hp), k1⟩, ?_⟩
  rintro x0 x1 x2 x3 w2 ⟨A, m, f, bf, rest, hv, hT2, hE, hf, hrs, hbz, hbf, k2⟩
  simp only [List.cons.injEq, Value.pointer.injEq, Value.string.injEq, Value.int.injEq, true_and, and_true] at hv
  obtain ⟨rfl, rfl, rfl, rfl⟩ := hv
  obtain ⟨f, rfl⟩ : ∃ g, f = g + 1 := ⟨f - 1, by omega⟩
  have hE2 : parseT s = if x2.size = 0 then .inl A else if ¬ findC 10 x2 < x2.size then .inr (A.length + 1, 4) else
    match lineA (x2.extract 0 (findC 10 x2)) x1 with
    | .inr e => .inr (A.length + 1, e)
    | .inl g => if 4096 < A.length + 1 then .inr (A.length + 1, 9) else parseA f (x2.extract (findC 10 x2 + 1) x2.size) (A.length + 1 + 1) g.1 (A ++ [g]) := hE
  have hlen := hT2.len
  have hinc : IntKind.i64.wrap (((A.length : Nat) : Int) + 1) = ((A.length + 1 : Nat) : Int) := inc64 (by omega)
  have hG2 := gk0 hG k2
  rw [emB]
  refine bsp_intro (fun h0 => ?_) (fun h0 => ?_)
  · have h0 : x2.size ≠ 0 := by simpa using h0
    rw [if_neg h0] at hE2
    refine ⟨(cut27_any 10 x2 w2 (by omega) hG2).mono fun e w3 ⟨he, k3⟩ => ⟨_, _, _, he, .of_k0 k3, ?_⟩⟩
    have k03 := k2.trans k3
    by_cases hk : findC 10 x2 < x2.size
    · rw [if_neg (by simpa using hk)] at hE2
      rw [if_pos hk, if_pos hk, decide_eq_true hk]
      have z1 : (x2.extract 0 (findC 10 x2)).size ≤ 1048576 := by rw [ByteArray.size_extract]; omega
      have z2 : (x2.extract (findC 10 x2 + 1) x2.size).size < x2.size := by rw [ByteArray.size_extract]; omega
      refine bsp_intro (fun h => by cases h) (fun _ => ⟨(acpline_any (x2.extract 0 (findC 10 x2)) x1 w3 z1 hbz (gk0 hG k03)).mono fun e w4 hP => ?_⟩)
      unfold PLn at hP
      obtain ⟨hP, k4⟩ := hP
      have k04 := k03.trans k4
      cases hl : lineA (x2.extract 0 (findC 10 x2)) x1 with
      | inr er =>
        rw [hl] at hP hE2
        obtain ⟨he0, he⟩ := hP
        refine ⟨_, _, _, _, _, _, _, he, .of_k0 k4, fun n1 => bsp_intro (fun _ W hW => ?_) (fun h => by simp at h; exact absurd h he0)⟩
        rw [hE2, hinc]
        exact ⟨⟨rfl, he0⟩, hW.k0 k04⟩
      | inl g =>
        rw [hl] at hP hE2
        obtain ⟨p, c, he, ho⟩ := hP
        obtain ⟨g1, g2, g3⟩ := lineA_ok hl
        have hgz := name_size g1.nm
        refine ⟨_, _, _, _, _, _, _, he, .of_k0 k4, fun n1 => bsp_intro (fun h => by simp at h) (fun _ => ?_)⟩
        rw [hinc]
        refine bsp_intro (fun h9 W hW => ?_) (fun h9 => nn_is rfl ⟨some mb, fun W hW => (hT2.k0 ((k3.trans k4).trans (hW.kk rfl))).z.cM, fun W hW => ?_⟩)
        · have h9 : 4096 < A.length + 1 := by simp at h9; omega
          simp only at hE2
          rw [if_pos h9] at hE2
          rw [hE2]
          exact ⟨⟨rfl, by decide⟩, hW.k0 k04⟩
        · have h9 : ¬ 4096 < A.length + 1 := by simp at h9; omega
          simp only at hE2
          rw [if_neg h9] at hE2
          have k2W : K0 w2 W := (k3.trans k4).trans (hW.kk rfl)
          have hall : ∀ q ∈ A, gnC q.1 g.1 < 0 := ksort_last hT2.wf.sort (fun q hq => by
            have e := hbf q hq
            rw [← e]
            refine g2 (fun e2 => ?_)
            have := (name_no (hT2.wf.nm q (List.mem_of_getLast? hq))).1
            rw [← e] at this
            omega)
          have hins := insA_end (v := g.2) hall
          have hnone : aget A g.1 = none := by
            rw [aget_none]
            intro q hq e
            have := hall q hq
            rw [e, gnC_ord.self] at this
            omega
          have hmn : aget m g.1 = none := by
            have := hT2.get g.1
            rw [hnone] at this
            cases hx : aget m g.1 with
            | none => rfl
            | some y => rw [hx] at this; cases this
          have hm : ∀ {q}, q ∈ A ++ [g] → q ∈ A ∨ q = g := fun hp => by
            rcases List.mem_append.1 hp with h | h
            · exact .inl h
            · exact .inr (List.mem_singleton.1 h)
          have hw2 : WF (A ++ [g]) := ⟨ksort_snoc hT2.wf.sort (fun q hq => hall q (List.mem_of_getLast? hq)), fun p hp => by rcases hm hp with h | rfl; exact hT2.wf.nm p h; exact g1.nm, fun p hp => by rcases hm hp with h | rfl; exact hT2.wf.hi p h; exact ⟨g1.h0, g1.hi⟩, fun p hp => by rcases hm hp with h | rfl; exact hT2.wf.iv p h; exact g1.iv⟩
          have hoW : Gx.own W w.heap.size ⟨g.2, p, c⟩ := owns_kp (own_base ho k03.size) (hW.kk rfl : K0 w4 W) (fun _ _ h => h)
          obtain ⟨w5, hu, hT5, k5⟩ := Ts.ins (w := W) hT2 (x := ⟨g.2, p, c⟩) hmn k2W (by omega) hoW (fun k (hk : (Value.slice p g.2.l.length c).ownBlock = some k) => by have := own_ge ho hk; have := k3.size; omega) (by show WF (insA gnC A g.1 g.2); rw [hins]; exact hw2) (by omega)
          have hA5 : insA gnC A g.1 (⟨g.2, p, c⟩ : Gx).v = A ++ [g] := hins
          rw [hA5] at hT5
          have hl1 : (A ++ [g]).length = A.length + 1 := by simp
          refine ⟨w5, hu, hT2.z.keptL k5 (fun k hk => by simp only [List.mem_cons, List.not_mem_nil, or_false] at hk; rw [hk]; have : w4.heap.size ≤ n1 := hW.fresh 0 rfl rfl; have := k3.size; have := k4.size; omega), ⟨A ++ [g], _, f, g.1, x2.extract (findC 10 x2 + 1) x2.size, by rw [hl1], hT5.t, by rw [hE2, hl1], by omega, by omega, by omega, fun q hq => by simp at hq; rw [← hq], hT5.base hT2.z k2 (Nat.le_refl _)⟩, z2⟩
    · rw [if_pos hk] at hE2
      rw [decide_eq_false hk]
      refine bsp_intro (fun _ => ?_) (fun h => by cases h)
      rw [hE2, hinc]
      exact ⟨⟨rfl, by decide⟩, k03⟩
  · have h0 : x2.size = 0 := by simpa using h0
    rw [if_pos h0] at hE2
    rw [hE2]
    exact ⟨⟨b, mb, m, rfl, hT2⟩, k2⟩

end Go.Proofs.YtgmmoghagpmpfaaGreatDoor

/- The formulas of functions by the symbolic evaluator, and that each gives the call's contract. Written by a program (gen.py). No condition. -/
namespace Go.Proofs.YtgmmoghagpmpfaaGreatDoor
set_option maxRecDepth 100000
set_option linter.unusedVariables false

def VC_aclknown (w : World) (R : Ending → World → Prop) : Prop :=
 CallsS Tryz.prog 19 #[] w fun (e : Ending) (w' : World) =>
 ∃ (x : Option Addr),
 e = Ending.returned (Value.pointer x) ∧
 KeptL [] w w' ∧
 bsp x.isNone (R (Ending.returned (Value.bool false)) w')
 (CallsS Tryz.prog 31 #[Value.pointer x, Value.string (ByteArray.mk #[97])] w' fun (e : Ending) (w'_1 : World) =>
 ∃ (x_1 : Int),
 e = Ending.returned (Value.int IntKind.i64 x_1) ∧
 KeptL [] w' w'_1 ∧
 ∀ (n : Nat) (W : World),
 Loc w.heap.size [Blk.mk n 9 [Value.string (ByteArray.mk #[97])] 2] w'_1 W →
 CallsS Tryz.prog 27 #[Value.pointer x, Value.slice (some (Addr.mk n 0 none)) 1 1] W
 fun (e : Ending) (w' : World) =>
 ∃ (p : Option Addr),
 ∃ (n : Nat),
 ∃ (c : Nat),
 ∃ (x_2 : Int),
 e = Ending.returned (Value.tuple #[Value.slice p n c, Value.int IntKind.i64 x_2]) ∧
 KeptL [] W w' ∧
 ∀ (n_1 : Nat) (W : World),
 Loc w.heap.size [Blk.mk n_1 9 [Value.string (ByteArray.mk #[97])] 2] w' W →
 CallsS Tryz.prog 27 #[Value.pointer x, Value.slice (some (Addr.mk n_1 0 none)) 1 1] W
 fun (e : Ending) (w' : World) =>
 ∃ (p_1 : Option Addr),
 ∃ (n_2 : Nat),
 ∃ (c : Nat),
 ∃ (x_3 : Int),
 e = Ending.returned (Value.tuple #[Value.slice p_1 n_2 c, Value.int IntKind.i64 x_3]) ∧
 KeptL [] W w' ∧
 ∀ (n_3 : Nat) (W : World),
 Loc w.heap.size [Blk.mk n_3 9 [Value.string (ByteArray.mk #[97])] 2] w' W →
 CallsS Tryz.prog 27 #[Value.pointer x, Value.slice (some (Addr.mk n_3 0 none)) 1 1] W
 fun (e : Ending) (w' : World) =>
 ∃ (p_2 : Option Addr),
 ∃ (n_4 : Nat),
 ∃ (c : Nat),
 ∃ (x_4 : Int),
 e =
 Ending.returned (Value.tuple #[Value.slice p_2 n_4 c, Value.int IntKind.i64 x_4]) ∧
 KeptL [] W w' ∧
 CallsS Tryz.prog 33
 #[Value.pointer x,
 Value.agg #[Value.string (ByteArray.mk #[97]), Value.int IntKind.i64 2]]
 w' fun (e : Ending) (w'_2 : World) =>
 ∃ (x_5 : Int),
 e = Ending.returned (Value.int IntKind.i64 x_5) ∧
 KeptL [] w' w'_2 ∧
 CallsS Tryz.prog 16 #[Value.pointer x, Value.string (ByteArray.mk #[97])] w'_2
 fun (e : Ending) (w' : World) =>
 ∃ (x_6 : ByteArray),
 ∃ (x_7 : Int),
 ∃ (x_8 : Int),
 ∃ (x_9 : Int),
 ∃ (x_10 : Bool),
 ∃ (x_11 : Int),
 e =
 Ending.returned
 (Value.tuple
 #[Value.agg
 #[Value.string x_6, Value.int IntKind.i64 x_7,
 Value.int IntKind.i64 x_8, Value.int IntKind.i64 x_9,
 Value.bool x_10],
 Value.int IntKind.i64 x_11]) ∧
 KeptL [] w'_2 w' ∧
 ∀ (n_5 : Nat) (W : World),
 Loc w.heap.size
 [Blk.mk n_5 31
 [Value.string x_6, Value.int IntKind.i64 x_7,
 Value.int IntKind.i64 x_8, Value.int IntKind.i64 x_9,
 Value.bool x_10]
 (wrM 2)]
 w' W →
 CallsS Tryz.prog 13
 #[Value.string
 (ByteArray.mk #[97, 32, 51, 32, 121, 32, 50, 44, 49, 10])]
 W fun (e : Ending) (w' : World) =>
 ∃ (x_12 : Option Addr),
 ∃ (x_13 : Int),
 ∃ (x_14 : Int),
 e =
 Ending.returned
 (Value.tuple
 #[Value.pointer x_12, Value.int IntKind.i64 x_13,
 Value.int IntKind.i64 x_14]) ∧
 KeptL [n_5] W w' ∧
 CallsS Tryz.prog 13
 #[Value.string
 (ByteArray.mk #[97, 32, 51, 32, 121, 32, 49, 44, 51, 10])]
 w' fun (e : Ending) (w'_3 : World) =>
 ∃ (x_15 : Option Addr),
 ∃ (x_16 : Int),
 ∃ (x_17 : Int),
 e =
 Ending.returned
 (Value.tuple
 #[Value.pointer x_15, Value.int IntKind.i64 x_16,
 Value.int IntKind.i64 x_17]) ∧
 KeptL [n_5] w' w'_3 ∧
 nn (x_1 == 0 && x_2 == 0 && (↑n : Int) == 1) p
 fun (b o : Nat) =>
 gimp (x_1 == 0 && x_2 == 0 && (↑n : Int) == 1)
 ((0 : Int) ≤ 0 ∧ 0 < (↑n : Int)) ∧
 ∃ (x_18 : ByteArray),
 ∃ (x_19 : Int),
 gimp (x_1 == 0 && x_2 == 0 && (↑n : Int) == 1)
 (AtL w'_3 b o
 [Value.string x_18, Value.int IntKind.i64 x_19]) ∧
 ∃ (r : Bool),
 gimp (x_1 == 0 && x_2 == 0 && (↑n : Int) == 1)
 (EqP Tryz.prog 64
 (Value.agg
 #[Value.string x_18,
 Value.int IntKind.i64 x_19])
 (Value.agg
 #[Value.string (ByteArray.mk #[97]),
 Value.int IntKind.i64 1])
 r) ∧
 ∃ (r_1 : Bool),
 gimp
 (x_1 == 0 && x_2 == 0 && (↑n : Int) == 1 &&
 r &&
 x_5 == 0 &&
 x_11 == 0)
 (EqP Tryz.prog 31
 (Value.agg
 #[Value.string x_6,
 Value.int IntKind.i64 x_7,
 Value.int IntKind.i64 x_8,
 Value.int IntKind.i64 x_9, Value.bool x_10])
 (Value.agg
 #[Value.string (ByteArray.mk #[97]),
 Value.int IntKind.i64 1,
 Value.int IntKind.i64 3,
 Value.int IntKind.i64 2, Value.bool false])
 r_1) ∧
 bsp
 (x_1 == 0 && x_2 == 0 && (↑n : Int) == 1 &&
 r &&
 x_5 == 0 &&
 x_11 == 0 &&
 r_1)
 (CallsS Tryz.prog 17 #[Value.pointer x] w'_3
 fun (e : Ending) (w' : World) =>
 ∃ (x_20 : ByteArray),
 e = Ending.returned (Value.string x_20) ∧
 KeptL [n_5] w'_3 w' ∧
 bsp
 (true &&
 x_20.toList ==
 [(ByteArray.mk
 #[97, 32, 51, 32, 121, 32, 49,
 44, 51, 10]).get!
 0,
 (ByteArray.mk
 #[97, 32, 51, 32, 121, 32, 49,
 44, 51, 10]).get!
 1,
 (ByteArray.mk
 #[97, 32, 51, 32, 121, 32, 49,
 44, 51, 10]).get!
 2,
 (ByteArray.mk
 #[97, 32, 51, 32, 121, 32, 49,
 44, 51, 10]).get!
 3,
 (ByteArray.mk
 #[97, 32, 51, 32, 121, 32, 49,
 44, 51, 10]).get!
 4,
 (ByteArray.mk
 #[97, 32, 51, 32, 121, 32, 49,
 44, 51, 10]).get!
 5,
 (ByteArray.mk
 #[97, 32, 51, 32, 121, 32, 49,
 44, 51, 10]).get!
 6,
 (ByteArray.mk
 #[97, 32, 51, 32, 121, 32, 49,
 44, 51, 10]).get!
 7,
 (ByteArray.mk
 #[97, 32, 51, 32, 121, 32, 49,
 44, 51, 10]).get!
 8,
 (ByteArray.mk
 #[97, 32, 51, 32, 121, 32, 49,
 44, 51, 10]).get!
 9] &&
 x_13 == 1 &&
 x_14 == 3 &&
 x_17 == 0 &&
 !x_15.isNone)
 (CallsS Tryz.prog 24
 #[Value.pointer x_15, Value.pointer x] w'
 fun (e : Ending) (w'_4 : World) =>
 ∃ (x : Bool),
 e = Ending.returned (Value.bool x) ∧
 KeptL [n_5] w' w'_4 ∧
 R
 (Ending.returned
 (Value.bool (true && x)))
 w'_4)
 (KeptL [n_5] w' w' ∧
 R (Ending.returned (Value.bool false))
 w'))
 (KeptL [n_5] w'_3 w'_3 ∧
 KeptL [n_5] w'_3 w'_3 ∧
 R (Ending.returned (Value.bool false)) w'_3))
theorem vc_aclknown (w : World) (R : Ending → World → Prop) (h : VC_aclknown w R) : Calls Tryz.prog 15 ([] : List Value).toArray w R := by
  have e : execR2 { P := Tryz.prog, loops := [], pur := pur1, tails := [], joins := [], boxes := [] } Tryz.f15.results.toList R (Tryz.f15.body.getD .skip) (initF [] (Tryz.f15.ntmps - ([] : List Value).length)) w = VC_aclknown w R := by kernel_rfl
  have hb : Tryz.f15.body = some (Tryz.f15.body.getD .skip) := by kernel_rfl
  exact calls_of_exec2' (P := Tryz.prog) (fn := Tryz.f15) (c := Tryz.f15.body.getD .skip) (args := []) (w := w) (R := R) pur1_ok Tryz.func15 hb e h

end Go.Proofs.YtgmmoghagpmpfaaGreatDoor

/- Chapter 27: the examples of the chapter hold: known returns true. The library's variable MaxLen holds a number, its table of powers of ten reads as laid. -/
namespace Go.Proofs.YtgmmoghagpmpfaaGreatDoor
open Go.RowKit Go.Maps Go.Sort

theorem gw_lt {w : World} (h : GW w) : 0 < w.heap.size := by
  obtain ⟨m, hm⟩ := h
  rcases Nat.lt_or_ge 0 w.heap.size with h' | h'
  · exact h'
  · unfold World.cell? at hm
    simp only [Array.getElem?_eq_none h'] at hm
    cases hm
def kA : ByteArray := ⟨#[97]⟩
def kT1 : ByteArray := ⟨#[97, 32, 51, 32, 121, 32, 50, 44, 49, 10]⟩
def kT2 : ByteArray := ⟨#[97, 32, 51, 32, 121, 32, 49, 44, 51, 10]⟩
def tA (h : Int) (l : List Iv) : TA := [(kA, ⟨h, false, l⟩)]
section
set_option maxRecDepth 100000
theorem kn0 : opA [] kA = (tA 0 [], 0) := by kernel_rfl
theorem kn1 : asR (tA 0 []) [kA] = (tA 1 [⟨1, 1⟩], [1], 0) := by kernel_rfl
theorem kn2 : asR (tA 1 [⟨1, 1⟩]) [kA] = (tA 2 [⟨1, 2⟩], [2], 0) := by kernel_rfl
theorem kn3 : asR (tA 2 [⟨1, 2⟩]) [kA] = (tA 3 [⟨1, 3⟩], [3], 0) := by kernel_rfl
theorem kn4 : rmA (tA 3 [⟨1, 3⟩]) kA 2 = (tA 3 [⟨1, 1⟩, ⟨3, 3⟩], 0) := by kernel_rfl
theorem kn5 : aget (tA 3 [⟨1, 1⟩, ⟨3, 3⟩]) kA = some ⟨3, false, [⟨1, 1⟩, ⟨3, 3⟩]⟩ := by kernel_rfl
theorem kn6 : parseT kT1 = .inr (1, 3) := by kernel_rfl
theorem kn7 : parseT kT2 = .inl (tA 3 [⟨1, 1⟩, ⟨3, 3⟩]) := by kernel_rfl
end
theorem kn8 : prT (tA 3 [⟨1, 1⟩, ⟨3, 3⟩]) = kT2 := (parse_ok kn7).2.2
theorem row_lit {w : World} {n : Nat} {t : TypeId} {f : Nat × Nat} (h : w.heap[n]? = some (.cells #[.string kA] t f)) : StrP w (some ⟨n, 0, none⟩) [kA] := strP_lit (zs := [kA]) h
theorem ty_lit {w : World} {n : Nat} {c : Array Value} {t : TypeId} {f : Nat × Nat} (h : w.heap[n]? = some (.cells c t f)) : TyN t w (some ⟨n, 0, none⟩) := fun g o e => by
  cases e
  exact ⟨_, _, h⟩
set_option maxHeartbeats 4000000 in
set_option maxRecDepth 100000 in
theorem acknown_any (w : World) (hG : GW w) (hT : GT w) : Calls Tryz.prog 15 #[] w fun e w' => e = .returned (.bool true) ∧ K0 w w' := by
  have hw := gw_lt hG
  refine vc_aclknown w _ ?_
  refine ⟨(acnew_any w hw).mono fun e w1 ⟨⟨b, mb, he, hT1⟩, k1⟩ => ⟨_, he, .of_k0 k1, bsp_intro (fun h => by cases h) (fun _ => ?_)⟩⟩
  refine ⟨(acopen_any hT1 kA (by decide) (gk0 hG k1)).mono fun e w2 ⟨he, m2, hT2⟩ => ?_⟩
  rw [kn0] at he hT2
  have k2 : K0 w w2 := hT2.base hT1.z k1 (Nat.le_refl _)
  refine ⟨_, he, ⟨hT2.k.size, fun _ hm => by cases hm⟩, fun n1 W2 hW2 => ?_⟩
  have kW2 : K0 w W2 := k2.trans (hW2.kk rfl)
  have hTW2 := hT2.t.k0 (hW2.kk rfl)
  refine ⟨(acassign_any hTW2 [kA] (some ⟨n1, 0, none⟩) 1 (row_lit (hW2.cells 0 rfl)) (ty_lit (hW2.cells 0 rfl)) (by decide) (by decide) (by decide)).mono fun e w3 ⟨⟨p3, c3, he, hr3, ht3⟩, m3, hT3⟩ => ?_⟩
  rw [kn1] at he hr3 hT3
  have k3 : K0 w w3 := hT3.base hTW2.z kW2 (Nat.le_refl _)
  refine ⟨_, _, _, _, he, ⟨hT3.k.size, fun _ hm => by cases hm⟩, fun n2 W3 hW3 => ?_⟩
  have kW3 : K0 w W3 := k3.trans (hW3.kk rfl)
  have hTW3 := hT3.t.k0 (hW3.kk rfl)
  refine ⟨(acassign_any hTW3 [kA] (some ⟨n2, 0, none⟩) 1 (row_lit (hW3.cells 0 rfl)) (ty_lit (hW3.cells 0 rfl)) (by decide) (by decide) (by decide)).mono fun e w4 ⟨⟨p4, c4, he, _, _⟩, m4, hT4⟩ => ?_⟩
  rw [kn2] at he hT4
  have k4 : K0 w w4 := hT4.base hTW3.z kW3 (Nat.le_refl _)
  refine ⟨_, _, _, _, he, ⟨hT4.k.size, fun _ hm => by cases hm⟩, fun n3 W4 hW4 => ?_⟩
  have kW4 : K0 w W4 := k4.trans (hW4.kk rfl)
  have hTW4 := hT4.t.k0 (hW4.kk rfl)
  refine ⟨(acassign_any hTW4 [kA] (some ⟨n3, 0, none⟩) 1 (row_lit (hW4.cells 0 rfl)) (ty_lit (hW4.cells 0 rfl)) (by decide) (by decide) (by decide)).mono fun e w5 ⟨⟨p5, c5, he, _, _⟩, m5, hT5⟩ => ?_⟩
  rw [kn3] at he hT5
  have k5 : K0 w w5 := hT5.base hTW4.z kW4 (Nat.le_refl _)
  refine ⟨_, _, _, _, he, ⟨hT5.k.size, fun _ hm => by cases hm⟩, ?_⟩
  refine ⟨(acremove_any hT5.t kA (by decide) 2 (by decide)).mono fun e w6 ⟨he, m6, hT6⟩ => ?_⟩
  rw [kn4] at he hT6
  have k6 : K0 w w6 := hT6.base hT5.t.z k5 (Nat.le_refl _)
  refine ⟨_, he, ⟨hT6.k.size, fun _ hm => by cases hm⟩, ?_⟩
  refine ⟨(acget_any hT6.t kA (by decide)).mono fun e w7 ⟨he, k67⟩ => ?_⟩
  rw [kn5] at he
  have k7 := k6.trans k67
  refine ⟨_, _, _, _, _, _, he, .of_k0 k67, fun n5 W7 hW7 => ?_⟩
  have kW7 : K0 w W7 := k7.trans (hW7.kk rfl)
  refine ⟨(acparse_any kT1 W7 (by decide) (gw_lt (gk0 hG kW7)) (gk0 hG kW7)).mono fun e w8 hP8 => ?_⟩
  rw [kn6] at hP8
  obtain ⟨⟨he, _⟩, k8⟩ := hP8
  refine ⟨_, _, _, he, .of_k0 k8, ?_⟩
  have k08 := kW7.trans k8
  refine ⟨(acparse_any kT2 w8 (by decide) (gw_lt (gk0 hG k08)) (gk0 hG k08)).mono fun e w9 hP9 => ?_⟩
  rw [kn7] at hP9
  obtain ⟨⟨b9, mb9, m9, he, hT9⟩, k9⟩ := hP9
  refine ⟨_, _, _, he, .of_k0 k9, ?_⟩
  have k09 := k08.trans k9
  have nt : ∀ {w : World} {B b mb : Nat} {m : TM} {A : TA} (h : Tq w B b mb m A) (k : Nat) (c : Array Value) (f : Nat × Nat), w.heap[k]? = some (.cells c 64 f) → ¬ Tb mb m k := fun h k c f hc => h.z.not_ty hc (by decide)
  have r1 := hr3.k0 (hW3.kk rfl)
  have t1 := ht3.k0 (hW3.kk rfl)
  have r2 := (r1.kpT t1 hT4.k (nt hTW3)).k0 (hW4.kk rfl)
  have t2 := (t1.kp hT4.k (nt hTW3)).k0 (hW4.kk rfl)
  have r3 := r2.kpT t2 hT5.k (nt hTW4)
  have t3 := t2.kp hT5.k (nt hTW4)
  have r4 := (r3.kpT t3 hT6.k (nt hT5.t)).k0 (((k67.trans (hW7.kk rfl)).trans k8).trans k9)
  obtain ⟨gb, go, hp3, hat⟩ := r4 0 (kA, 1) rfl
  rw [Nat.zero_mul, Nat.add_zero] at hat
  have hT69 := hT6.t.k0 (((k67.trans (hW7.kk rfl)).trans k8).trans k9)
  refine nn_is hp3 ⟨gimp_intro fun _ => by decide, kA, 1, gimp_intro fun _ => hat, _, gimp_intro fun _ => plEq27 kA kA 1 1, _, gimp_intro fun _ => grEq27 kA kA _ _ _ _ _ _ _ _, bsp_intro (fun _ => ?_) (fun h => ?_)⟩
  · refine ⟨(acprint_any hT69 (gk0 hG k09) (hT.k0 k09) (by decide)).mono fun e w10 ⟨he, k10⟩ => ?_⟩
    rw [kn8] at he
    have k010 := k09.trans k10
    refine ⟨_, he, .of_k0 k10, bsp_intro (fun _ => ?_) (fun h => ?_)⟩
    · exact ⟨(acequal_any (hT9.k0 k10) (hT69.k0 k10)).mono fun e w11 ⟨⟨r, he, hr⟩, k11⟩ => ⟨r, he, .of_k0 k11, by rw [hr.2 rfl]; exact ⟨rfl, k010.trans k11⟩⟩⟩
    · exact absurd h (by simp only [Option.isNone_some, Bool.not_false, Bool.and_true]; decide +kernel)
  · exact absurd h (by decide +kernel)

end Go.Proofs.YtgmmoghagpmpfaaGreatDoor

/- The formulas of functions by the symbolic evaluator, and that each gives the call's contract. Written by a program (gen.py). No condition. -/
namespace Go.Proofs.YtgmmoghagpmpfaaGreatDoor
set_option maxRecDepth 100000
set_option linter.unusedVariables false

def VC_acldigits (x : Int) (w : World) (R : Ending → World → Prop) : Prop :=
 ∃ (I : List Value → World → Prop),
 ∃ (m : List Value → World → Nat),
 I [Value.int IntKind.i64 x, Value.string (ByteArray.mk #[])] w ∧
 ∀ (x : Int) (x_1 : ByteArray) (w' : World),
 I [Value.int IntKind.i64 x, Value.string x_1] w' →
 bsp (decide (x > 0))
 ((0 ≤ x.tmod 10 ∧ x.tmod 10 ≤ IntKind.i64.wrap (x.tmod 10 + 1) ∧ IntKind.i64.wrap (x.tmod 10 + 1) ≤ (↑10 : Int)) ∧
 (9223372036854775807 -
 (↑(((ByteArray.mk #[48, 49, 50, 51, 52, 53, 54, 55, 56, 57]).extract (x.tmod 10).toNat
 (IntKind.i64.wrap (x.tmod 10 + 1)).toNat).size +
 x_1.size) :
 Int)).NonNeg ∧
 I
 [Value.int IntKind.i64 (IntKind.i64.wrap (x.tdiv 10)),
 Value.string
 ((ByteArray.mk #[48, 49, 50, 51, 52, 53, 54, 55, 56, 57]).extract (x.tmod 10).toNat
 (IntKind.i64.wrap (x.tmod 10 + 1)).toNat ++
 x_1)]
 w' ∧
 m
 [Value.int IntKind.i64 (IntKind.i64.wrap (x.tdiv 10)),
 Value.string
 ((ByteArray.mk #[48, 49, 50, 51, 52, 53, 54, 55, 56, 57]).extract (x.tmod 10).toNat
 (IntKind.i64.wrap (x.tmod 10 + 1)).toNat ++
 x_1)]
 w' <
 m [Value.int IntKind.i64 x, Value.string x_1] w')
 (R (Ending.returned (Value.string x_1)) w')
theorem vc_acldigits (x : Int) (w : World) (R : Ending → World → Prop) (h : VC_acldigits x w R) : Calls Tryz.prog 25 ([Value.int
    IntKind.i64 x] : List Value).toArray w R := by
  have e : execR2 { P := Tryz.prog, loops := [(2, [(0, Ck.int IntKind.i64), (3, Ck.str)])], pur := pur1, tails := [], joins := [], boxes := [] } Tryz.f25.results.toList R (Tryz.f25.body.getD .skip) (initF [Value.int
    IntKind.i64
    x] (Tryz.f25.ntmps - ([Value.int IntKind.i64 x] : List Value).length)) w = VC_acldigits x w R := by kernel_rfl
  have hb : Tryz.f25.body = some (Tryz.f25.body.getD .skip) := by kernel_rfl
  exact calls_of_exec2' (P := Tryz.prog) (fn := Tryz.f25) (c := Tryz.f25.body.getD .skip) (args := [Value.int
    IntKind.i64 x]) (w := w) (R := R) pur1_ok Tryz.func25 hb e h

end Go.Proofs.YtgmmoghagpmpfaaGreatDoor

/- The formulas of functions by the symbolic evaluator, and that each gives the call's contract. Written by a program (gen.py). No condition. -/
namespace Go.Proofs.YtgmmoghagpmpfaaGreatDoor
set_option maxRecDepth 100000
set_option linter.unusedVariables false

end Go.Proofs.YtgmmoghagpmpfaaGreatDoor

/- Chapter 27: the law's names, first, do: an operation on the module's table and on the reference's. The library's variable MaxLen holds a number. -/
namespace Go.Proofs.YtgmmoghagpmpfaaGreatDoor
open Go.RowKit Go.Sort Go.Maps

section
variable {w : World} {B b mb : Nat} {m : TM} {A : TA}
end

end Go.Proofs.YtgmmoghagpmpfaaGreatDoor

/- Chapter 27: the law's state and play. The library's variable MaxLen holds a number. -/
namespace Go.Proofs.YtgmmoghagpmpfaaGreatDoor
open Go.RowKit Go.Sort Go.Maps

theorem hi_opX {A : TA} (h : WF A) (k : Int) (l : List ByteArray) (n : Int) {s : ByteArray} {u : Gv} (hg : aget (opX A k l n) s = some u) : (∃ v, aget A s = some v ∧ u.h ≤ v.h + 1) ∨ u.h = 0 := by
  unfold opX at hg
  split at hg
  · rw [opA_get h] at hg
    split at hg
    · rename_i e
      subst e
      cases hA : aget A (fstL l) with
      | none =>
        rw [hA] at hg
        unfold opG at hg
        simp only at hg
        split at hg
        · cases hg
        split at hg
        · cases hg
        · cases hg; exact .inr rfl
      | some v =>
        rw [hA] at hg
        unfold opG at hg
        simp only at hg
        refine .inl ⟨v, rfl, ?_⟩
        split at hg
        · cases hg; omega
        split at hg
        · cases hg; omega
        · cases hg; show v.h ≤ v.h + 1; omega
    · exact .inl ⟨u, hg, by omega⟩
  split at hg
  · rw [clA_get] at hg
    split at hg
    · rename_i e
      subst e
      cases hA : aget A (fstL l) with
      | none => rw [hA] at hg; cases hg
      | some v => rw [hA] at hg; cases hg; exact .inl ⟨v, rfl, by show v.h ≤ v.h + 1; omega⟩
    · exact .inl ⟨u, hg, by omega⟩
  split at hg
  · rw [rmA_get] at hg
    split at hg
    · rename_i e
      subst e
      cases hA : aget A (fstL l) with
      | none => rw [hA] at hg; cases hg
      | some v =>
        rw [hA] at hg
        unfold rmG at hg
        simp only at hg
        refine .inl ⟨v, rfl, ?_⟩
        split at hg
        · cases hg; show v.h ≤ v.h + 1; omega
        · cases hg; omega
    · exact .inl ⟨u, hg, by omega⟩
  · rcases asR_get (A := A) l s with e | ⟨v, g1, _, _, _, _, g3⟩
    · exact .inl ⟨u, by rw [← e]; exact hg, by omega⟩
    · rw [hg] at g3
      cases g3
      exact .inl ⟨v, g1, Int.le_refl _⟩
theorem Sm.opX {A : TA} {j : Nat} (h : WF A) (hs : Sm j A) (k : Int) (l : List ByteArray) (n : Int) : Sm (j + 1) (opX A k l n) := fun p hp => by
  rcases hi_opX h k l n (aget_at (wf_opX h k l n).dis hp) with ⟨v, h1, h2⟩ | h1
  · have : v.h ≤ (j : Int) := hs _ (aget_mem h1)
    omega
  · rw [h1]; omega
theorem Sm.mono {A : TA} {j k : Nat} (hs : Sm j A) (h : j ≤ k) : Sm k A := fun p hp => by have := hs p hp; omega
/-- What operations keep. -/
structure Pl27 (A : TA) (n : Nat) : Prop where
  wf : WF A
  len : A.length ≤ n
  sm : Sm n A
theorem Pl27.op {A : TA} {n : Nat} (h : Pl27 A n) (k : Int) (l : List ByteArray) (a : Int) : Pl27 (opX A k l a) (n + 1) := ⟨wf_opX h.wf _ _ _, by have := opX_len A k l a; have := h.len; omega, Sm.opX h.wf h.sm _ _ _⟩
theorem Pl27.nil : Pl27 [] 0 := ⟨WF.nil, Nat.le_refl _, fun p hp => by cases hp⟩
section
variable {w : World} {B b mb : Nat} {m : TM} {A : TA}
end

end Go.Proofs.YtgmmoghagpmpfaaGreatDoor

/- The formulas of functions by the symbolic evaluator, and that each gives the call's contract. Written by a program (gen.py). No condition. -/
namespace Go.Proofs.YtgmmoghagpmpfaaGreatDoor
set_option maxRecDepth 100000
set_option linter.unusedVariables false

end Go.Proofs.YtgmmoghagpmpfaaGreatDoor

/- Chapter 27: ActiveOrder on worlds. The library's variable MaxLen holds a number, its table of powers of ten reads as laid. -/
namespace Go.Proofs.YtgmmoghagpmpfaaGreatDoor
open Go.RowKit Go.Sort Go.Maps

def kB : ByteArray := ⟨#[98]⟩
theorem kAB : kA ≠ kB := by decide
/-- A table of the names a and b. -/
structure Ab2 (S : TA) (u v : Option Gv) : Prop where
  ga : aget S kA = u
  gb : aget S kB = v
  go : ∀ s, s ≠ kA → s ≠ kB → aget S s = none
theorem Ab2.eq {S T : TA} {u v : Option Gv} (h : Ab2 S u v) (k : Ab2 T u v) (hS : WF S) (hT : WF T) : S = T := ksort_ext hS.sort hT.sort fun s => by
  by_cases h1 : s = kA
  · rw [h1, h.ga, k.ga]
  by_cases h2 : s = kB
  · rw [h2, h.gb, k.gb]
  rw [h.go s h1 h2, k.go s h1 h2]
theorem Ab2.a {S : TA} {u v : Option Gv} {n : Nat} (h : Ab2 S u v) (hP : Pl27 S n) (hn : n < 4096) (k a : Int) : Ab2 (opX S k [kA] a) (loX kA k a u) v := by
  have e := fun t => opX_lo hP.wf (Nat.lt_of_le_of_lt hP.len hn) kA t k a
  exact ⟨by rw [e, if_pos rfl, h.ga], by rw [e, if_neg kAB]; exact h.gb, fun s h1 h2 => by rw [e, if_neg (fun e => h1 e.symm)]; exact h.go s h1 h2⟩
theorem Ab2.b {S : TA} {u v : Option Gv} {n : Nat} (h : Ab2 S u v) (hP : Pl27 S n) (hn : n < 4096) (k a : Int) : Ab2 (opX S k [kB] a) u (loX kB k a v) := by
  have e := fun t => opX_lo hP.wf (Nat.lt_of_le_of_lt hP.len hn) kB t k a
  exact ⟨by rw [e, if_neg (fun e => kAB e.symm)]; exact h.ga, by rw [e, if_pos rfl, h.gb], fun s h1 h2 => by rw [e, if_neg (fun e => h2 e.symm)]; exact h.go s h1 h2⟩
/-- Two tables apart. -/
structure Sep27 (b mb : Nat) (m : TM) (d md : Nat) (n : TM) : Prop where
  ap : ∀ k, Tb mb m k → ¬ Tb md n k
  x1 : ¬ Tb md n b
  x2 : ¬ Tb mb m d
theorem Sep27.symm {b mb d md : Nat} {m n : TM} (h : Sep27 b mb m d md n) : Sep27 d md n b mb m := ⟨fun k h1 h2 => h.ap k h2 h1, h.x2, h.x1⟩
theorem Sep27.op {w w' : World} {B b mb B2 d md : Nat} {m n m' : TM} {A' C : TA} (h : Sep27 b mb m d md n) (hT : Ts w w' B b mb m A' m') (hC : Tq w B2 d md n C) : Sep27 b mb m' d md n ∧ Tq w' B2 d md n C :=
  ⟨⟨fun k hk e => by
    rcases hT.f k hk with h1 | h1
    · exact h.ap k h1 e
    · have := (hC.z.tb e).2.1; omega, h.x1, fun e => by
    rcases hT.f d e with h1 | h1
    · exact h.x2 h1
    · have := block_lt hC.z.st; omega⟩, hC.kp hT.k h.x2 (fun k hk e => h.ap k e hk)⟩
section
variable {w : World} {B b mb : Nat} {m : TM} {A : TA}
end
theorem Pl27.mono {A : TA} {n k : Nat} (h : Pl27 A n) (hk : n ≤ k) : Pl27 A k := ⟨h.wf, Nat.le_trans h.len hk, h.sm.mono hk⟩
end Go.Proofs.YtgmmoghagpmpfaaGreatDoor

/- Chapter 27: the reference's Ranges and Print. Printed by mkxc27.py. Lists of numbers are not too long. -/
namespace Go.Proofs.YtgmmoghagpmpfaaGreatDoor
open Go.RowKit Go.Sort Go.Maps

theorem z45 : (ByteArray.mk #[45]).size = 1 := rfl
theorem IvS.take {hi : Int} : ∀ {lo : Int} {l : List Iv} (j : Nat), IvS hi lo l → IvS hi lo (l.take j)
  | _, [], j, _ => by rw [List.take_nil]; trivial
  | _, _ :: _, 0, _ => trivial
  | _, _ :: _, j + 1, ⟨h1, h2, h3, h4⟩ => ⟨h1, h2, h3, IvS.take j h4⟩
section
variable {w : World}
end

end Go.Proofs.YtgmmoghagpmpfaaGreatDoor

/- Chapter 27: the reference's Print. Printed by mkxp27.py. Lists of numbers are not too long. -/
namespace Go.Proofs.YtgmmoghagpmpfaaGreatDoor
open Go.RowKit Go.Sort Go.Maps

theorem z10 : (ByteArray.mk #[10]).size = 1 := rfl
theorem lnT_some {s : ByteArray} {v : Gv} (h : v.l ≠ []) : lnT (s, v) = s ++ ⟨#[32]⟩ ++ decI v.h ++ (⟨#[32]⟩ ++ ynT v.c) ++ (⟨#[32]⟩ ++ rngT v.l) ++ ⟨#[10]⟩ := by
  unfold lnT wdT
  cases hv : v.l with
  | nil => exact absurd hv h
  | cons a t =>
    simp only
    show (s ++ ⟨#[32]⟩ ++ decI v.h ++ ⟨#[32]⟩ ++ ynT v.c ++ ⟨#[32]⟩ ++ rngT (a :: t)) ++ ⟨#[10]⟩ = _
    simp only [ByteArray.append_assoc]
theorem lnT_none {s : ByteArray} {v : Gv} (h : v.l = []) : lnT (s, v) = s ++ ⟨#[32]⟩ ++ decI v.h ++ (⟨#[32]⟩ ++ ynT v.c) ++ ⟨#[10]⟩ := by
  unfold lnT wdT
  rw [h]
  simp only
  show (s ++ ⟨#[32]⟩ ++ decI v.h ++ ⟨#[32]⟩ ++ ynT v.c) ++ ⟨#[10]⟩ = _
  simp only [ByteArray.append_assoc]
section
variable {w : World} {p : Option Addr} {R : List Rx} {A : TA}
end

end Go.Proofs.YtgmmoghagpmpfaaGreatDoor

/- The formulas of functions by the symbolic evaluator, and that each gives the call's contract. Written by a program (gen.py). No condition. -/
namespace Go.Proofs.YtgmmoghagpmpfaaGreatDoor
set_option maxRecDepth 100000
set_option linter.unusedVariables false

def VC_acllimits (x : Int) (f : Bool) (w : World) (R : Ending → World → Prop) : Prop :=
 CallsS Tryz.prog 25 #[Value.int IntKind.i64 (IntKind.i64.wrap (2147483646 - (IntKind.i64.wrap x).tmod 4))] w
 fun (e : Ending) (w' : World) =>
 ∃ (x_1 : ByteArray),
 e = Ending.returned (Value.string x_1) ∧
 KeptL [] w w' ∧
 (9223372036854775807 - (↑((ByteArray.mk #[97, 32, 48, 32, 121, 10, 98, 32]).size + x_1.size) : Int)).NonNeg ∧
 (9223372036854775807 -
 (↑((ByteArray.mk #[97, 32, 48, 32, 121, 10, 98, 32] ++ x_1).size + (ByteArray.mk #[32, 121, 32, 53, 45]).size) :
 Int)).NonNeg ∧
 CallsS Tryz.prog 25 #[Value.int IntKind.i64 (IntKind.i64.wrap (2147483646 - (IntKind.i64.wrap x).tmod 4))] w'
 fun (e : Ending) (w'_1 : World) =>
 ∃ (x_2 : ByteArray),
 e = Ending.returned (Value.string x_2) ∧
 KeptL [] w' w'_1 ∧
 (9223372036854775807 -
 (↑((ByteArray.mk #[97, 32, 48, 32, 121, 10, 98, 32] ++ x_1 ++ ByteArray.mk #[32, 121, 32, 53, 45]).size +
 x_2.size) :
 Int)).NonNeg ∧
 (9223372036854775807 -
 (↑((ByteArray.mk #[97, 32, 48, 32, 121, 10, 98, 32] ++ x_1 ++ ByteArray.mk #[32, 121, 32, 53, 45] ++
 x_2).size +
 (ByteArray.mk #[10]).size) :
 Int)).NonNeg ∧
 CallsS Tryz.prog 13
 #[Value.string
 (ByteArray.mk #[97, 32, 48, 32, 121, 10, 98, 32] ++ x_1 ++ ByteArray.mk #[32, 121, 32, 53, 45] ++ x_2 ++
 ByteArray.mk #[10])]
 w'_1 fun (e : Ending) (w' : World) =>
 ∃ (x_3 : Option Addr),
 ∃ (x_4 : Int),
 ∃ (x_5 : Int),
 e =
 Ending.returned
 (Value.tuple #[Value.pointer x_3, Value.int IntKind.i64 x_4, Value.int IntKind.i64 x_5]) ∧
 KeptL [] w'_1 w' ∧
 CallsS Tryz.prog 15 #[] w' fun (e : Ending) (w'_2 : World) =>
 ∃ (x_6 : Bool),
 e = Ending.returned (Value.bool x_6) ∧
 KeptL [] w' w'_2 ∧
 bsp (!x_6 || x_5 != 0 || x_3.isNone) (R (Ending.returned (Value.bool false)) w'_2)
 (bsp f
 (CallsS Tryz.prog 26 #[Value.pointer x_3, Value.string (ByteArray.mk #[97])] w'_2
 fun (e : Ending) (w' : World) =>
 ∃ (x_7 : Int),
 e = Ending.returned (Value.int IntKind.i64 x_7) ∧
 KeptL [] w'_2 w' ∧
 bsp (true && x_7 != 0) (R (Ending.returned (Value.bool false)) w')
 (∃ (I : List Value → World → Prop),
 ∃ (m : List Value → World → Nat),
 I
 [Value.int IntKind.i64 0,
 Value.int IntKind.i64 (IntKind.i64.wrap (2147483646 - (IntKind.i64.wrap x).tmod 4))]
 w' ∧
 ∀ (x x_8 : Int) (w' : World),
 I [Value.int IntKind.i64 x, Value.int IntKind.i64 x_8] w' →
 bsp (decide (x < 5))
 (∀ (n : Nat) (W : World),
 Loc w.heap.size
 [Blk.mk n 9 [Value.string (ByteArray.mk #[98]), Value.string (ByteArray.mk #[97])]
 2]
 w' W →
 CallsS Tryz.prog 27 #[Value.pointer x_3, Value.slice (some (Addr.mk n 0 none)) 2 2]
 W fun (e : Ending) (w'_3 : World) =>
 ∃ (p : Option Addr),
 ∃ (n : Nat),
 ∃ (c : Nat),
 ∃ (x_9 : Int),
 e =
 Ending.returned
 (Value.tuple #[Value.slice p n c, Value.int IntKind.i64 x_9]) ∧
 KeptL [] W w'_3 ∧
 CallsS Tryz.prog 16 #[Value.pointer x_3, Value.string (ByteArray.mk #[97])]
 w'_3 fun (e : Ending) (w'_4 : World) =>
 ∃ (x_10 : ByteArray),
 ∃ (x_11 : Int),
 ∃ (x_12 : Int),
 ∃ (x_13 : Int),
 ∃ (x_14 : Bool),
 ∃ (x_15 : Int),
 e =
 Ending.returned
 (Value.tuple
 #[Value.agg
 #[Value.string x_10, Value.int IntKind.i64 x_11,
 Value.int IntKind.i64 x_12, Value.int IntKind.i64 x_13,
 Value.bool x_14],
 Value.int IntKind.i64 x_15]) ∧
 KeptL [] w'_3 w'_4 ∧
 ∀ (n_1 : Nat) (W : World),
 Loc w.heap.size
 [Blk.mk n_1 31
 [Value.string x_10, Value.int IntKind.i64 x_11,
 Value.int IntKind.i64 x_12, Value.int IntKind.i64 x_13,
 Value.bool x_14]
 (wrM 2)]
 w'_4 W →
 CallsS Tryz.prog 16
 #[Value.pointer x_3, Value.string (ByteArray.mk #[98])] W
 fun (e : Ending) (w'_5 : World) =>
 ∃ (x_16 : ByteArray),
 ∃ (x_17 : Int),
 ∃ (x_18 : Int),
 ∃ (x_19 : Int),
 ∃ (x_20 : Bool),
 ∃ (x_21 : Int),
 e =
 Ending.returned
 (Value.tuple
 #[Value.agg
 #[Value.string x_16, Value.int IntKind.i64 x_17,
 Value.int IntKind.i64 x_18,
 Value.int IntKind.i64 x_19, Value.bool x_20],
 Value.int IntKind.i64 x_21]) ∧
 KeptL [n_1] W w'_5 ∧
 ∀ (n_2 : Nat),
 bsp (f && decide (x_8 < 2147483646))
 (∃ (x_22 : Int),
 gimp (!x_9 != 10)
 (∀ (W : World),
 Loc w.heap.size
 [Blk.mk n_2 31
 [Value.string x_16,
 Value.int IntKind.i64 x_17,
 Value.int IntKind.i64 x_18,
 Value.int IntKind.i64 x_19, Value.bool x_20]
 (wrM 2),
 Blk.mk n_1 31
 [Value.string x_10,
 Value.int IntKind.i64 x_11,
 Value.int IntKind.i64 x_12,
 Value.int IntKind.i64 x_13, Value.bool x_14]
 0]
 w'_5 W →
 W.cell? (Addr.mk n_1 (0 + 2) none) =
 some (Value.int IntKind.i64 x_22)) ∧
 ∃ (x_23 : Int),
 gimp (!(x_9 != 10 || x_22 != 0))
 (∀ (W : World),
 Loc w.heap.size
 [Blk.mk n_2 31
 [Value.string x_16,
 Value.int IntKind.i64 x_17,
 Value.int IntKind.i64 x_18,
 Value.int IntKind.i64 x_19,
 Value.bool x_20]
 (wrM 2),
 Blk.mk n_1 31
 [Value.string x_10,
 Value.int IntKind.i64 x_11,
 Value.int IntKind.i64 x_12,
 Value.int IntKind.i64 x_13,
 Value.bool x_14]
 0]
 w'_5 W →
 W.cell? (Addr.mk n_2 (0 + 2) none) =
 some (Value.int IntKind.i64 x_23)) ∧
 bsp (x_9 != 10 || x_22 != 0 || x_23 != x_8)
 (∀ (W : World),
 Loc w.heap.size
 [Blk.mk n_2 31
 [Value.string x_16,
 Value.int IntKind.i64 x_17,
 Value.int IntKind.i64 x_18,
 Value.int IntKind.i64 x_19,
 Value.bool x_20]
 (wrM 2),
 Blk.mk n_1 31
 [Value.string x_10,
 Value.int IntKind.i64 x_11,
 Value.int IntKind.i64 x_12,
 Value.int IntKind.i64 x_13,
 Value.bool x_14]
 0]
 w'_5 W →
 R (Ending.returned (Value.bool false)) W)
 (∀ (W : World),
 Loc w.heap.size
 [Blk.mk n_2 31
 [Value.string x_16,
 Value.int IntKind.i64 x_17,
 Value.int IntKind.i64 x_18,
 Value.int IntKind.i64 x_19,
 Value.bool x_20]
 (wrM 2),
 Blk.mk n_1 31
 [Value.string x_10,
 Value.int IntKind.i64 x_11,
 Value.int IntKind.i64 x_12,
 Value.int IntKind.i64 x_13,
 Value.bool x_14]
 0]
 w'_5 W →
 I
 [Value.int IntKind.i64
 (IntKind.i64.wrap (x + 1)),
 Value.int IntKind.i64 x_8]
 W ∧
 m
 [Value.int IntKind.i64
 (IntKind.i64.wrap (x + 1)),
 Value.int IntKind.i64 x_8]
 W <
 m
 [Value.int IntKind.i64 x,
 Value.int IntKind.i64 x_8]
 w'))
 (bsp (decide (x_8 < 2147483646))
 (nn (!(x_9 != 0 || (↑n : Int) != 2)) p
 fun (b o : Nat) =>
 gimp (!(x_9 != 0 || (↑n : Int) != 2))
 ((0 : Int) ≤ 0 ∧ 0 < (↑n : Int)) ∧
 ∃ (x_22 : Int),
 gimp (!(x_9 != 0 || (↑n : Int) != 2))
 (∀ (W : World),
 Loc w.heap.size
 [Blk.mk n_2 31
 [Value.string x_16,
 Value.int IntKind.i64 x_17,
 Value.int IntKind.i64 x_18,
 Value.int IntKind.i64 x_19,
 Value.bool x_20]
 (wrM 2),
 Blk.mk n_1 31
 [Value.string x_10,
 Value.int IntKind.i64 x_11,
 Value.int IntKind.i64 x_12,
 Value.int IntKind.i64 x_13,
 Value.bool x_14]
 0]
 w'_5 W →
 W.cell? (Addr.mk b (o + 1) none) =
 some (Value.int IntKind.i64 x_22)) ∧
 ∃ (x_23 : Int),
 gimp
 (!(x_9 != 0 || (↑n : Int) != 2 ||
 x_22 != IntKind.i64.wrap (x_8 + 1)))
 (∀ (W : World),
 Loc w.heap.size
 [Blk.mk n_2 31
 [Value.string x_16,
 Value.int IntKind.i64 x_17,
 Value.int IntKind.i64 x_18,
 Value.int IntKind.i64 x_19,
 Value.bool x_20]
 (wrM 2),
 Blk.mk n_1 31
 [Value.string x_10,
 Value.int IntKind.i64 x_11,
 Value.int IntKind.i64 x_12,
 Value.int IntKind.i64 x_13,
 Value.bool x_14]
 0]
 w'_5 W →
 W.cell? (Addr.mk n_2 (0 + 2) none) =
 some (Value.int IntKind.i64 x_23)) ∧
 ∃ (x_24 : Int),
 gimp
 (!(x_9 != 0 || (↑n : Int) != 2 ||
 x_22 != IntKind.i64.wrap (x_8 + 1) ||
 x_23 != IntKind.i64.wrap (x_8 + 1)))
 (∀ (W : World),
 Loc w.heap.size
 [Blk.mk n_2 31
 [Value.string x_16,
 Value.int IntKind.i64 x_17,
 Value.int IntKind.i64 x_18,
 Value.int IntKind.i64 x_19,
 Value.bool x_20]
 (wrM 2),
 Blk.mk n_1 31
 [Value.string x_10,
 Value.int IntKind.i64 x_11,
 Value.int IntKind.i64 x_12,
 Value.int IntKind.i64 x_13,
 Value.bool x_14]
 0]
 w'_5 W →
 W.cell? (Addr.mk n_2 (0 + 1) none) =
 some (Value.int IntKind.i64 x_24)) ∧
 ∃ (x_25 : Int),
 gimp
 (!(x_9 != 0 || (↑n : Int) != 2 ||
 x_22 != IntKind.i64.wrap (x_8 + 1) ||
 x_23 != IntKind.i64.wrap (x_8 + 1) ||
 x_24 != 5))
 (∀ (W : World),
 Loc w.heap.size
 [Blk.mk n_2 31
 [Value.string x_16,
 Value.int IntKind.i64 x_17,
 Value.int IntKind.i64 x_18,
 Value.int IntKind.i64 x_19,
 Value.bool x_20]
 (wrM 2),
 Blk.mk n_1 31
 [Value.string x_10,
 Value.int IntKind.i64 x_11,
 Value.int IntKind.i64 x_12,
 Value.int IntKind.i64 x_13,
 Value.bool x_14]
 0]
 w'_5 W →
 W.cell? (Addr.mk n_2 (0 + 3) none) =
 some (Value.int IntKind.i64 x_25)) ∧
 nn
 (!(x_9 != 0 || (↑n : Int) != 2 ||
 x_22 != IntKind.i64.wrap (x_8 + 1) ||
 x_23 != IntKind.i64.wrap (x_8 + 1) ||
 x_24 != 5 ||
 x_25 !=
 IntKind.i64.wrap
 (IntKind.i64.wrap (x_8 + 1) - 4)))
 p fun (b o : Nat) =>
 gimp
 (!(x_9 != 0 || (↑n : Int) != 2 ||
 x_22 !=
 IntKind.i64.wrap (x_8 + 1) ||
 x_23 !=
 IntKind.i64.wrap (x_8 + 1) ||
 x_24 != 5 ||
 x_25 !=
 IntKind.i64.wrap
 (IntKind.i64.wrap (x_8 + 1) - 4)))
 ((0 : Int) ≤ 1 ∧ 1 < (↑n : Int)) ∧
 ∃ (x_26 : Int),
 gimp
 (!(x_9 != 0 || (↑n : Int) != 2 ||
 x_22 !=
 IntKind.i64.wrap (x_8 + 1) ||
 x_23 !=
 IntKind.i64.wrap (x_8 + 1) ||
 x_24 != 5 ||
 x_25 !=
 IntKind.i64.wrap
 (IntKind.i64.wrap (x_8 + 1) - 4)))
 (∀ (W : World),
 Loc w.heap.size
 [Blk.mk n_2 31
 [Value.string x_16,
 Value.int IntKind.i64 x_17,
 Value.int IntKind.i64 x_18,
 Value.int IntKind.i64 x_19,
 Value.bool x_20]
 (wrM 2),
 Blk.mk n_1 31
 [Value.string x_10,
 Value.int IntKind.i64 x_11,
 Value.int IntKind.i64 x_12,
 Value.int IntKind.i64 x_13,
 Value.bool x_14]
 0]
 w'_5 W →
 W.cell? (Addr.mk b (o + 3) none) =
 some
 (Value.int IntKind.i64 x_26)) ∧
 ∃ (x_27 : Int),
 gimp
 (!(x_9 != 0 || (↑n : Int) != 2 ||
 x_22 !=
 IntKind.i64.wrap (x_8 + 1) ||
 x_23 !=
 IntKind.i64.wrap (x_8 + 1) ||
 x_24 != 5 ||
 x_25 !=
 IntKind.i64.wrap
 (IntKind.i64.wrap (x_8 + 1) -
 4)))
 (∀ (W : World),
 Loc w.heap.size
 [Blk.mk n_2 31
 [Value.string x_16,
 Value.int IntKind.i64 x_17,
 Value.int IntKind.i64 x_18,
 Value.int IntKind.i64 x_19,
 Value.bool x_20]
 (wrM 2),
 Blk.mk n_1 31
 [Value.string x_10,
 Value.int IntKind.i64 x_11,
 Value.int IntKind.i64 x_12,
 Value.int IntKind.i64 x_13,
 Value.bool x_14]
 0]
 w'_5 W →
 W.cell?
 (Addr.mk n_1 (0 + 2) none) =
 some
 (Value.int IntKind.i64 x_27)) ∧
 bsp
 (x_9 != 0 || (↑n : Int) != 2 ||
 x_22 !=
 IntKind.i64.wrap (x_8 + 1) ||
 x_23 !=
 IntKind.i64.wrap (x_8 + 1) ||
 x_24 != 5 ||
 x_25 !=
 IntKind.i64.wrap
 (IntKind.i64.wrap (x_8 + 1) -
 4) ||
 x_26 != x_27)
 (∀ (W : World),
 Loc w.heap.size
 [Blk.mk n_2 31
 [Value.string x_16,
 Value.int IntKind.i64 x_17,
 Value.int IntKind.i64 x_18,
 Value.int IntKind.i64 x_19,
 Value.bool x_20]
 (wrM 2),
 Blk.mk n_1 31
 [Value.string x_10,
 Value.int IntKind.i64 x_11,
 Value.int IntKind.i64 x_12,
 Value.int IntKind.i64 x_13,
 Value.bool x_14]
 0]
 w'_5 W →
 R
 (Ending.returned
 (Value.bool false))
 W)
 (∀ (W : World),
 Loc w.heap.size
 [Blk.mk n_2 31
 [Value.string x_16,
 Value.int IntKind.i64 x_17,
 Value.int IntKind.i64 x_18,
 Value.int IntKind.i64 x_19,
 Value.bool x_20]
 (wrM 2),
 Blk.mk n_1 31
 [Value.string x_10,
 Value.int IntKind.i64 x_11,
 Value.int IntKind.i64 x_12,
 Value.int IntKind.i64 x_13,
 Value.bool x_14]
 0]
 w'_5 W →
 I
 [Value.int IntKind.i64
 (IntKind.i64.wrap (x + 1)),
 Value.int IntKind.i64
 (IntKind.i64.wrap (x_8 + 1))]
 W ∧
 m
 [Value.int IntKind.i64
 (IntKind.i64.wrap (x + 1)),
 Value.int IntKind.i64
 (IntKind.i64.wrap (x_8 + 1))]
 W <
 m
 [Value.int IntKind.i64 x,
 Value.int IntKind.i64 x_8]
 w'))
 (∃ (x_22 : Int),
 gimp (!(x_9 != 9 || (↑n : Int) != 0))
 (∀ (W : World),
 Loc w.heap.size
 [Blk.mk n_2 31
 [Value.string x_16,
 Value.int IntKind.i64 x_17,
 Value.int IntKind.i64 x_18,
 Value.int IntKind.i64 x_19, Value.bool x_20]
 (wrM 2),
 Blk.mk n_1 31
 [Value.string x_10,
 Value.int IntKind.i64 x_11,
 Value.int IntKind.i64 x_12,
 Value.int IntKind.i64 x_13, Value.bool x_14]
 0]
 w'_5 W →
 W.cell? (Addr.mk n_2 (0 + 2) none) =
 some (Value.int IntKind.i64 x_22)) ∧
 ∃ (x_23 : Int),
 gimp
 (!(x_9 != 9 || (↑n : Int) != 0 || x_22 != x_8))
 (∀ (W : World),
 Loc w.heap.size
 [Blk.mk n_2 31
 [Value.string x_16,
 Value.int IntKind.i64 x_17,
 Value.int IntKind.i64 x_18,
 Value.int IntKind.i64 x_19,
 Value.bool x_20]
 (wrM 2),
 Blk.mk n_1 31
 [Value.string x_10,
 Value.int IntKind.i64 x_11,
 Value.int IntKind.i64 x_12,
 Value.int IntKind.i64 x_13,
 Value.bool x_14]
 0]
 w'_5 W →
 W.cell? (Addr.mk n_1 (0 + 2) none) =
 some (Value.int IntKind.i64 x_23)) ∧
 bsp
 (x_9 != 9 || (↑n : Int) != 0 || x_22 != x_8 ||
 decide (x_23 > 4))
 (∀ (W : World),
 Loc w.heap.size
 [Blk.mk n_2 31
 [Value.string x_16,
 Value.int IntKind.i64 x_17,
 Value.int IntKind.i64 x_18,
 Value.int IntKind.i64 x_19,
 Value.bool x_20]
 (wrM 2),
 Blk.mk n_1 31
 [Value.string x_10,
 Value.int IntKind.i64 x_11,
 Value.int IntKind.i64 x_12,
 Value.int IntKind.i64 x_13,
 Value.bool x_14]
 0]
 w'_5 W →
 R (Ending.returned (Value.bool false)) W)
 (∀ (W : World),
 Loc w.heap.size
 [Blk.mk n_2 31
 [Value.string x_16,
 Value.int IntKind.i64 x_17,
 Value.int IntKind.i64 x_18,
 Value.int IntKind.i64 x_19,
 Value.bool x_20]
 (wrM 2),
 Blk.mk n_1 31
 [Value.string x_10,
 Value.int IntKind.i64 x_11,
 Value.int IntKind.i64 x_12,
 Value.int IntKind.i64 x_13,
 Value.bool x_14]
 0]
 w'_5 W →
 I
 [Value.int IntKind.i64
 (IntKind.i64.wrap (x + 1)),
 Value.int IntKind.i64 x_8]
 W ∧
 m
 [Value.int IntKind.i64
 (IntKind.i64.wrap (x + 1)),
 Value.int IntKind.i64 x_8]
 W <
 m
 [Value.int IntKind.i64 x,
 Value.int IntKind.i64 x_8]
 w'))))
 (R (Ending.returned (Value.bool true)) w')))
 (KeptL [] w'_2 w'_2 ∧
 ∃ (I : List Value → World → Prop),
 ∃ (m : List Value → World → Nat),
 I
 [Value.int IntKind.i64 0,
 Value.int IntKind.i64 (IntKind.i64.wrap (2147483646 - (IntKind.i64.wrap x).tmod 4))]
 w'_2 ∧
 ∀ (x x_7 : Int) (w' : World),
 I [Value.int IntKind.i64 x, Value.int IntKind.i64 x_7] w' →
 bsp (decide (x < 5))
 (∀ (n : Nat) (W : World),
 Loc w.heap.size
 [Blk.mk n 9 [Value.string (ByteArray.mk #[98]), Value.string (ByteArray.mk #[97])] 2]
 w' W →
 CallsS Tryz.prog 27 #[Value.pointer x_3, Value.slice (some (Addr.mk n 0 none)) 2 2] W
 fun (e : Ending) (w'_3 : World) =>
 ∃ (p : Option Addr),
 ∃ (n : Nat),
 ∃ (c : Nat),
 ∃ (x_8 : Int),
 e =
 Ending.returned (Value.tuple #[Value.slice p n c, Value.int IntKind.i64 x_8]) ∧
 KeptL [] W w'_3 ∧
 CallsS Tryz.prog 16 #[Value.pointer x_3, Value.string (ByteArray.mk #[97])] w'_3
 fun (e : Ending) (w'_4 : World) =>
 ∃ (x_9 : ByteArray),
 ∃ (x_10 : Int),
 ∃ (x_11 : Int),
 ∃ (x_12 : Int),
 ∃ (x_13 : Bool),
 ∃ (x_14 : Int),
 e =
 Ending.returned
 (Value.tuple
 #[Value.agg
 #[Value.string x_9, Value.int IntKind.i64 x_10,
 Value.int IntKind.i64 x_11, Value.int IntKind.i64 x_12,
 Value.bool x_13],
 Value.int IntKind.i64 x_14]) ∧
 KeptL [] w'_3 w'_4 ∧
 ∀ (n_1 : Nat) (W : World),
 Loc w.heap.size
 [Blk.mk n_1 31
 [Value.string x_9, Value.int IntKind.i64 x_10,
 Value.int IntKind.i64 x_11, Value.int IntKind.i64 x_12,
 Value.bool x_13]
 (wrM 2)]
 w'_4 W →
 CallsS Tryz.prog 16
 #[Value.pointer x_3, Value.string (ByteArray.mk #[98])] W
 fun (e : Ending) (w'_5 : World) =>
 ∃ (x_15 : ByteArray),
 ∃ (x_16 : Int),
 ∃ (x_17 : Int),
 ∃ (x_18 : Int),
 ∃ (x_19 : Bool),
 ∃ (x_20 : Int),
 e =
 Ending.returned
 (Value.tuple
 #[Value.agg
 #[Value.string x_15, Value.int IntKind.i64 x_16,
 Value.int IntKind.i64 x_17, Value.int IntKind.i64 x_18,
 Value.bool x_19],
 Value.int IntKind.i64 x_20]) ∧
 KeptL [n_1] W w'_5 ∧
 ∀ (n_2 : Nat),
 bsp (f && decide (x_7 < 2147483646))
 (∃ (x_21 : Int),
 gimp (!x_8 != 10)
 (∀ (W : World),
 Loc w.heap.size
 [Blk.mk n_2 31
 [Value.string x_15, Value.int IntKind.i64 x_16,
 Value.int IntKind.i64 x_17,
 Value.int IntKind.i64 x_18, Value.bool x_19]
 (wrM 2),
 Blk.mk n_1 31
 [Value.string x_9, Value.int IntKind.i64 x_10,
 Value.int IntKind.i64 x_11,
 Value.int IntKind.i64 x_12, Value.bool x_13]
 0]
 w'_5 W →
 W.cell? (Addr.mk n_1 (0 + 2) none) =
 some (Value.int IntKind.i64 x_21)) ∧
 ∃ (x_22 : Int),
 gimp (!(x_8 != 10 || x_21 != 0))
 (∀ (W : World),
 Loc w.heap.size
 [Blk.mk n_2 31
 [Value.string x_15, Value.int IntKind.i64 x_16,
 Value.int IntKind.i64 x_17,
 Value.int IntKind.i64 x_18, Value.bool x_19]
 (wrM 2),
 Blk.mk n_1 31
 [Value.string x_9, Value.int IntKind.i64 x_10,
 Value.int IntKind.i64 x_11,
 Value.int IntKind.i64 x_12, Value.bool x_13]
 0]
 w'_5 W →
 W.cell? (Addr.mk n_2 (0 + 2) none) =
 some (Value.int IntKind.i64 x_22)) ∧
 bsp (x_8 != 10 || x_21 != 0 || x_22 != x_7)
 (∀ (W : World),
 Loc w.heap.size
 [Blk.mk n_2 31
 [Value.string x_15, Value.int IntKind.i64 x_16,
 Value.int IntKind.i64 x_17,
 Value.int IntKind.i64 x_18, Value.bool x_19]
 (wrM 2),
 Blk.mk n_1 31
 [Value.string x_9, Value.int IntKind.i64 x_10,
 Value.int IntKind.i64 x_11,
 Value.int IntKind.i64 x_12, Value.bool x_13]
 0]
 w'_5 W →
 R (Ending.returned (Value.bool false)) W)
 (∀ (W : World),
 Loc w.heap.size
 [Blk.mk n_2 31
 [Value.string x_15, Value.int IntKind.i64 x_16,
 Value.int IntKind.i64 x_17,
 Value.int IntKind.i64 x_18, Value.bool x_19]
 (wrM 2),
 Blk.mk n_1 31
 [Value.string x_9, Value.int IntKind.i64 x_10,
 Value.int IntKind.i64 x_11,
 Value.int IntKind.i64 x_12, Value.bool x_13]
 0]
 w'_5 W →
 I
 [Value.int IntKind.i64
 (IntKind.i64.wrap (x + 1)),
 Value.int IntKind.i64 x_7]
 W ∧
 m
 [Value.int IntKind.i64
 (IntKind.i64.wrap (x + 1)),
 Value.int IntKind.i64 x_7]
 W <
 m
 [Value.int IntKind.i64 x,
 Value.int IntKind.i64 x_7]
 w'))
 (bsp (decide (x_7 < 2147483646))
 (nn (!(x_8 != 0 || (↑n : Int) != 2)) p fun (b o : Nat) =>
 gimp (!(x_8 != 0 || (↑n : Int) != 2))
 ((0 : Int) ≤ 0 ∧ 0 < (↑n : Int)) ∧
 ∃ (x_21 : Int),
 gimp (!(x_8 != 0 || (↑n : Int) != 2))
 (∀ (W : World),
 Loc w.heap.size
 [Blk.mk n_2 31
 [Value.string x_15, Value.int IntKind.i64 x_16,
 Value.int IntKind.i64 x_17,
 Value.int IntKind.i64 x_18, Value.bool x_19]
 (wrM 2),
 Blk.mk n_1 31
 [Value.string x_9, Value.int IntKind.i64 x_10,
 Value.int IntKind.i64 x_11,
 Value.int IntKind.i64 x_12, Value.bool x_13]
 0]
 w'_5 W →
 W.cell? (Addr.mk b (o + 1) none) =
 some (Value.int IntKind.i64 x_21)) ∧
 ∃ (x_22 : Int),
 gimp
 (!(x_8 != 0 || (↑n : Int) != 2 ||
 x_21 != IntKind.i64.wrap (x_7 + 1)))
 (∀ (W : World),
 Loc w.heap.size
 [Blk.mk n_2 31
 [Value.string x_15,
 Value.int IntKind.i64 x_16,
 Value.int IntKind.i64 x_17,
 Value.int IntKind.i64 x_18, Value.bool x_19]
 (wrM 2),
 Blk.mk n_1 31
 [Value.string x_9,
 Value.int IntKind.i64 x_10,
 Value.int IntKind.i64 x_11,
 Value.int IntKind.i64 x_12, Value.bool x_13]
 0]
 w'_5 W →
 W.cell? (Addr.mk n_2 (0 + 2) none) =
 some (Value.int IntKind.i64 x_22)) ∧
 ∃ (x_23 : Int),
 gimp
 (!(x_8 != 0 || (↑n : Int) != 2 ||
 x_21 != IntKind.i64.wrap (x_7 + 1) ||
 x_22 != IntKind.i64.wrap (x_7 + 1)))
 (∀ (W : World),
 Loc w.heap.size
 [Blk.mk n_2 31
 [Value.string x_15,
 Value.int IntKind.i64 x_16,
 Value.int IntKind.i64 x_17,
 Value.int IntKind.i64 x_18,
 Value.bool x_19]
 (wrM 2),
 Blk.mk n_1 31
 [Value.string x_9,
 Value.int IntKind.i64 x_10,
 Value.int IntKind.i64 x_11,
 Value.int IntKind.i64 x_12,
 Value.bool x_13]
 0]
 w'_5 W →
 W.cell? (Addr.mk n_2 (0 + 1) none) =
 some (Value.int IntKind.i64 x_23)) ∧
 ∃ (x_24 : Int),
 gimp
 (!(x_8 != 0 || (↑n : Int) != 2 ||
 x_21 != IntKind.i64.wrap (x_7 + 1) ||
 x_22 != IntKind.i64.wrap (x_7 + 1) ||
 x_23 != 5))
 (∀ (W : World),
 Loc w.heap.size
 [Blk.mk n_2 31
 [Value.string x_15,
 Value.int IntKind.i64 x_16,
 Value.int IntKind.i64 x_17,
 Value.int IntKind.i64 x_18,
 Value.bool x_19]
 (wrM 2),
 Blk.mk n_1 31
 [Value.string x_9,
 Value.int IntKind.i64 x_10,
 Value.int IntKind.i64 x_11,
 Value.int IntKind.i64 x_12,
 Value.bool x_13]
 0]
 w'_5 W →
 W.cell? (Addr.mk n_2 (0 + 3) none) =
 some (Value.int IntKind.i64 x_24)) ∧
 nn
 (!(x_8 != 0 || (↑n : Int) != 2 ||
 x_21 != IntKind.i64.wrap (x_7 + 1) ||
 x_22 != IntKind.i64.wrap (x_7 + 1) ||
 x_23 != 5 ||
 x_24 !=
 IntKind.i64.wrap
 (IntKind.i64.wrap (x_7 + 1) - 4)))
 p fun (b o : Nat) =>
 gimp
 (!(x_8 != 0 || (↑n : Int) != 2 ||
 x_21 != IntKind.i64.wrap (x_7 + 1) ||
 x_22 != IntKind.i64.wrap (x_7 + 1) ||
 x_23 != 5 ||
 x_24 !=
 IntKind.i64.wrap
 (IntKind.i64.wrap (x_7 + 1) - 4)))
 ((0 : Int) ≤ 1 ∧ 1 < (↑n : Int)) ∧
 ∃ (x_25 : Int),
 gimp
 (!(x_8 != 0 || (↑n : Int) != 2 ||
 x_21 != IntKind.i64.wrap (x_7 + 1) ||
 x_22 != IntKind.i64.wrap (x_7 + 1) ||
 x_23 != 5 ||
 x_24 !=
 IntKind.i64.wrap
 (IntKind.i64.wrap (x_7 + 1) - 4)))
 (∀ (W : World),
 Loc w.heap.size
 [Blk.mk n_2 31
 [Value.string x_15,
 Value.int IntKind.i64 x_16,
 Value.int IntKind.i64 x_17,
 Value.int IntKind.i64 x_18,
 Value.bool x_19]
 (wrM 2),
 Blk.mk n_1 31
 [Value.string x_9,
 Value.int IntKind.i64 x_10,
 Value.int IntKind.i64 x_11,
 Value.int IntKind.i64 x_12,
 Value.bool x_13]
 0]
 w'_5 W →
 W.cell? (Addr.mk b (o + 3) none) =
 some (Value.int IntKind.i64 x_25)) ∧
 ∃ (x_26 : Int),
 gimp
 (!(x_8 != 0 || (↑n : Int) != 2 ||
 x_21 !=
 IntKind.i64.wrap (x_7 + 1) ||
 x_22 !=
 IntKind.i64.wrap (x_7 + 1) ||
 x_23 != 5 ||
 x_24 !=
 IntKind.i64.wrap
 (IntKind.i64.wrap (x_7 + 1) - 4)))
 (∀ (W : World),
 Loc w.heap.size
 [Blk.mk n_2 31
 [Value.string x_15,
 Value.int IntKind.i64 x_16,
 Value.int IntKind.i64 x_17,
 Value.int IntKind.i64 x_18,
 Value.bool x_19]
 (wrM 2),
 Blk.mk n_1 31
 [Value.string x_9,
 Value.int IntKind.i64 x_10,
 Value.int IntKind.i64 x_11,
 Value.int IntKind.i64 x_12,
 Value.bool x_13]
 0]
 w'_5 W →
 W.cell? (Addr.mk n_1 (0 + 2) none) =
 some (Value.int IntKind.i64 x_26)) ∧
 bsp
 (x_8 != 0 || (↑n : Int) != 2 ||
 x_21 !=
 IntKind.i64.wrap (x_7 + 1) ||
 x_22 !=
 IntKind.i64.wrap (x_7 + 1) ||
 x_23 != 5 ||
 x_24 !=
 IntKind.i64.wrap
 (IntKind.i64.wrap (x_7 + 1) - 4) ||
 x_25 != x_26)
 (∀ (W : World),
 Loc w.heap.size
 [Blk.mk n_2 31
 [Value.string x_15,
 Value.int IntKind.i64 x_16,
 Value.int IntKind.i64 x_17,
 Value.int IntKind.i64 x_18,
 Value.bool x_19]
 (wrM 2),
 Blk.mk n_1 31
 [Value.string x_9,
 Value.int IntKind.i64 x_10,
 Value.int IntKind.i64 x_11,
 Value.int IntKind.i64 x_12,
 Value.bool x_13]
 0]
 w'_5 W →
 R (Ending.returned (Value.bool false))
 W)
 (∀ (W : World),
 Loc w.heap.size
 [Blk.mk n_2 31
 [Value.string x_15,
 Value.int IntKind.i64 x_16,
 Value.int IntKind.i64 x_17,
 Value.int IntKind.i64 x_18,
 Value.bool x_19]
 (wrM 2),
 Blk.mk n_1 31
 [Value.string x_9,
 Value.int IntKind.i64 x_10,
 Value.int IntKind.i64 x_11,
 Value.int IntKind.i64 x_12,
 Value.bool x_13]
 0]
 w'_5 W →
 I
 [Value.int IntKind.i64
 (IntKind.i64.wrap (x + 1)),
 Value.int IntKind.i64
 (IntKind.i64.wrap (x_7 + 1))]
 W ∧
 m
 [Value.int IntKind.i64
 (IntKind.i64.wrap (x + 1)),
 Value.int IntKind.i64
 (IntKind.i64.wrap (x_7 + 1))]
 W <
 m
 [Value.int IntKind.i64 x,
 Value.int IntKind.i64 x_7]
 w'))
 (∃ (x_21 : Int),
 gimp (!(x_8 != 9 || (↑n : Int) != 0))
 (∀ (W : World),
 Loc w.heap.size
 [Blk.mk n_2 31
 [Value.string x_15, Value.int IntKind.i64 x_16,
 Value.int IntKind.i64 x_17,
 Value.int IntKind.i64 x_18, Value.bool x_19]
 (wrM 2),
 Blk.mk n_1 31
 [Value.string x_9, Value.int IntKind.i64 x_10,
 Value.int IntKind.i64 x_11,
 Value.int IntKind.i64 x_12, Value.bool x_13]
 0]
 w'_5 W →
 W.cell? (Addr.mk n_2 (0 + 2) none) =
 some (Value.int IntKind.i64 x_21)) ∧
 ∃ (x_22 : Int),
 gimp (!(x_8 != 9 || (↑n : Int) != 0 || x_21 != x_7))
 (∀ (W : World),
 Loc w.heap.size
 [Blk.mk n_2 31
 [Value.string x_15, Value.int IntKind.i64 x_16,
 Value.int IntKind.i64 x_17,
 Value.int IntKind.i64 x_18, Value.bool x_19]
 (wrM 2),
 Blk.mk n_1 31
 [Value.string x_9, Value.int IntKind.i64 x_10,
 Value.int IntKind.i64 x_11,
 Value.int IntKind.i64 x_12, Value.bool x_13]
 0]
 w'_5 W →
 W.cell? (Addr.mk n_1 (0 + 2) none) =
 some (Value.int IntKind.i64 x_22)) ∧
 bsp
 (x_8 != 9 || (↑n : Int) != 0 || x_21 != x_7 ||
 decide (x_22 > 4))
 (∀ (W : World),
 Loc w.heap.size
 [Blk.mk n_2 31
 [Value.string x_15, Value.int IntKind.i64 x_16,
 Value.int IntKind.i64 x_17,
 Value.int IntKind.i64 x_18, Value.bool x_19]
 (wrM 2),
 Blk.mk n_1 31
 [Value.string x_9, Value.int IntKind.i64 x_10,
 Value.int IntKind.i64 x_11,
 Value.int IntKind.i64 x_12, Value.bool x_13]
 0]
 w'_5 W →
 R (Ending.returned (Value.bool false)) W)
 (∀ (W : World),
 Loc w.heap.size
 [Blk.mk n_2 31
 [Value.string x_15, Value.int IntKind.i64 x_16,
 Value.int IntKind.i64 x_17,
 Value.int IntKind.i64 x_18, Value.bool x_19]
 (wrM 2),
 Blk.mk n_1 31
 [Value.string x_9, Value.int IntKind.i64 x_10,
 Value.int IntKind.i64 x_11,
 Value.int IntKind.i64 x_12, Value.bool x_13]
 0]
 w'_5 W →
 I
 [Value.int IntKind.i64
 (IntKind.i64.wrap (x + 1)),
 Value.int IntKind.i64 x_7]
 W ∧
 m
 [Value.int IntKind.i64
 (IntKind.i64.wrap (x + 1)),
 Value.int IntKind.i64 x_7]
 W <
 m
 [Value.int IntKind.i64 x,
 Value.int IntKind.i64 x_7]
 w'))))
 (R (Ending.returned (Value.bool true)) w')))
theorem vc_acllimits (x : Int) (f : Bool) (w : World) (R : Ending → World → Prop) (h : VC_acllimits x f w R) : Calls Tryz.prog 6 ([Value.int
    IntKind.u8 x,
  Value.bool f] : List Value).toArray w R := by
  have e : execR2 { P := Tryz.prog, loops := [(9, [(10, Ck.int IntKind.i64), (5, Ck.int IntKind.i64)])], pur := pur1, tails := [], joins := [], boxes := [] } Tryz.f6.results.toList R (Tryz.f6.body.getD .skip) (initF [Value.int
    IntKind.u8 x,
  Value.bool
    f] (Tryz.f6.ntmps - ([Value.int IntKind.u8 x,
  Value.bool f] : List Value).length)) w = VC_acllimits x f w R := by kernel_rfl
  have hb : Tryz.f6.body = some (Tryz.f6.body.getD .skip) := by kernel_rfl
  exact calls_of_exec2' (P := Tryz.prog) (fn := Tryz.f6) (c := Tryz.f6.body.getD .skip) (args := [Value.int IntKind.u8
    x,
  Value.bool f]) (w := w) (R := R) pur1_ok Tryz.func6 hb e h

end Go.Proofs.YtgmmoghagpmpfaaGreatDoor

/- Chapter 27: ActiveLimits on worlds. Printed by mklim27.py. The library's variable MaxLen holds a number, its table of powers of ten reads as laid. -/
namespace Go.Proofs.YtgmmoghagpmpfaaGreatDoor
open Go.RowKit Go.Sort Go.Maps

/-- The last k decimal digits. -/
def dgF (n : Nat) : Nat → ByteArray
  | 0 => ⟨#[]⟩
  | k + 1 => (ByteArray.mk #[48, 49, 50, 51, 52, 53, 54, 55, 56, 57]).extract (n / 10 ^ k % 10) (n / 10 ^ k % 10 + 1) ++ dgF n k
theorem dgF_size (n : Nat) : ∀ k, (dgF n k).size ≤ 10 * k
  | 0 => Nat.le_refl _
  | k + 1 => by
    have h1 := dgF_size n k
    have h2 : ((ByteArray.mk #[48, 49, 50, 51, 52, 53, 54, 55, 56, 57]).extract (n / 10 ^ k % 10) (n / 10 ^ k % 10 + 1)).size ≤ 10 := by
      rw [ByteArray.size_extract]
      have : (ByteArray.mk #[48, 49, 50, 51, 52, 53, 54, 55, 56, 57]).size = 10 := rfl
      omega
    unfold dgF
    rw [ByteArray.size_append]
    omega
theorem acldigits_any (n : Nat) (h1 : 1000000000 ≤ n) (h2 : n < 10000000000) (w : World) : Calls Tryz.prog 25 #[.int .i64 (n : Int)] w fun e w' => e = .returned (.string (dgF n 10)) ∧ w' = w := by
  refine vc_acldigits (n : Int) w _ ⟨fun vs w' => ∃ k : Nat, vs = [.int .i64 ((n / 10 ^ k : Nat) : Int), .string (dgF n k)] ∧ k ≤ 10 ∧ w' = w, fun vs _ => (match vs with | .int _ a :: _ => a.toNat | _ => 0), ⟨0, by rw [Nat.pow_zero, Nat.div_one]; rfl, by omega, rfl⟩, ?_⟩
  rintro xn xs w1 ⟨k, hv, hk, rfl⟩
  simp only [List.cons.injEq, Value.int.injEq, Value.string.injEq, true_and, and_true] at hv
  obtain ⟨rfl, rfl⟩ := hv
  have hle : n / 10 ^ k ≤ n := Nat.div_le_self _ _
  refine bsp_intro (fun hlt => ?_) (fun hge => ?_)
  · have hlt : 0 < n / 10 ^ k := by simp only [decide_eq_true_eq] at hlt; omega
    have hk10 : k < 10 := by
      rcases Nat.lt_or_ge k 10 with h | h
      · exact h
      · have : k = 10 := by omega
        subst this
        have : n / 10 ^ 10 = 0 := Nat.div_eq_of_lt (by omega)
        omega
    have hd : n / 10 ^ (k + 1) = n / 10 ^ k / 10 := by rw [Nat.pow_succ, Nat.div_div_eq_div_mul]
    have hz := dgF_size n k
    have hun : dgF n (k + 1) = (ByteArray.mk #[48, 49, 50, 51, 52, 53, 54, 55, 56, 57]).extract (n / 10 ^ k % 10) (n / 10 ^ k % 10 + 1) ++ dgF n k := rfl
    generalize n / 10 ^ k = q at *
    have e1 : ((q : Nat) : Int).tmod 10 = ((q % 10 : Nat) : Int) := by rw [Int.tmod_eq_emod_of_nonneg (by omega)]; omega
    have e2 : ((q : Nat) : Int).tdiv 10 = ((q / 10 : Nat) : Int) := by rw [Int.tdiv_eq_ediv_of_nonneg (by omega)]; omega
    have hq : q % 10 < 10 := Nat.mod_lt _ (by omega)
    rw [e1, e2, inc64 (by omega), wr64 (x := ((q / 10 : Nat) : Int)) (by omega) (by omega)]
    simp only [Int.toNat_natCast]
    have z1 : ((ByteArray.mk #[48, 49, 50, 51, 52, 53, 54, 55, 56, 57]).extract (q % 10) (q % 10 + 1)).size ≤ 10 := by
      rw [ByteArray.size_extract]
      have : (ByteArray.mk #[48, 49, 50, 51, 52, 53, 54, 55, 56, 57]).size = 10 := rfl
      omega
    exact ⟨⟨by omega, by omega, by omega⟩, nneg (by omega), ⟨k + 1, by rw [hd, hun], by omega, trivial⟩, by omega⟩
  · have h0 : n / 10 ^ k = 0 := by
      simp only [decide_eq_false_iff_not] at hge
      exact Nat.eq_zero_of_not_pos (fun h => hge (Int.natCast_pos.2 h))
    have hk10 : k = 10 := by
      rcases Nat.lt_or_ge k 10 with h | h
      · exfalso
        have h3 : 10 ^ k ≤ 10 ^ 9 := Nat.pow_le_pow_right (by omega) (by omega)
        have h4 : 0 < n / 10 ^ k := Nat.div_pos (by omega) (Nat.pow_pos (by omega))
        omega
      · omega
    subst hk10
    exact ⟨rfl, rfl⟩
set_option maxRecDepth 100000 in
theorem dg0 : dgF 2147483646 10 = decI 2147483646 := by kernel_rfl
set_option maxRecDepth 100000 in
theorem dg1 : dgF 2147483645 10 = decI 2147483645 := by kernel_rfl
set_option maxRecDepth 100000 in
theorem dg2 : dgF 2147483644 10 = decI 2147483644 := by kernel_rfl
set_option maxRecDepth 100000 in
theorem dg3 : dgF 2147483643 10 = decI 2147483643 := by kernel_rfl
theorem dgF_dec {r : Nat} (h : r < 4) : dgF (2147483646 - r) 10 = decI ((2147483646 - r : Nat) : Int) := by
  have : r = 0 ∨ r = 1 ∨ r = 2 ∨ r = 3 := by omega
  rcases this with rfl | rfl | rfl | rfl
  · exact dg0
  · exact dg1
  · exact dg2
  · exact dg3
/-- The law's table: a behind t numbers, b with the highest number h. -/
def tb (cl : Bool) (h t : Int) : TA := [(kA, ⟨t, cl, if t = 0 then [] else [⟨1, t⟩]⟩), (kB, ⟨h, false, [⟨5, h⟩]⟩)]
theorem tb_a {cl : Bool} {h t : Int} : aget (tb cl h t) kA = some ⟨t, cl, if t = 0 then [] else [⟨1, t⟩]⟩ := by
  unfold tb aget
  rw [if_pos rfl]
theorem tb_b {cl : Bool} {h t : Int} : aget (tb cl h t) kB = some ⟨h, false, [⟨5, h⟩]⟩ := by
  unfold tb aget
  rw [if_neg kAB]
  unfold aget
  rw [if_pos rfl]
theorem tb_cnt {h : Int} (hh : 5 ≤ h) : ((exI [(⟨5, h⟩ : Iv)]).length : Int) = h - 4 := by
  rw [exI_len _ (fun x hx => by rw [List.mem_singleton.1 hx]; exact hh)]
  show h - 5 + 1 + 0 = h - 4
  omega
theorem nd_ba : [kB, kA].Nodup := by decide
theorem tb_closed {h t : Int} (hm : h < 2147483646) : asR (tb true h t) [kB, kA] = (tb true h t, [], 10) := by
  refine asR_err (by decide) nd_ba ?_ (by decide)
  unfold asE
  rw [tb_b]
  simp only
  rw [if_neg (by decide), if_neg (by omega)]
  unfold asE
  rw [tb_a]
  rfl
theorem tb_full {cl : Bool} {h t : Int} (hm : h = 2147483646) : asR (tb cl h t) [kB, kA] = (tb cl h t, [], 9) := by
  refine asR_err (by decide) nd_ba ?_ (by decide)
  unfold asE
  rw [tb_b]
  simp only
  rw [if_neg (by decide), if_pos (by omega)]
theorem nx_b {h : Int} : nxG ⟨h, false, [⟨5, h⟩]⟩ = ⟨h + 1, false, [⟨5, h + 1⟩]⟩ := by
  unfold nxG withI
  simp
theorem nx_a {t : Int} (ht : 0 ≤ t) : nxG ⟨t, false, if t = 0 then [] else [⟨1, t⟩]⟩ = ⟨t + 1, false, if t + 1 = 0 then [] else [⟨1, t + 1⟩]⟩ := by
  rw [if_neg (show ¬ t + 1 = 0 by omega)]
  by_cases e : t = 0
  · subst e; rfl
  · rw [if_neg e]
    unfold nxG withI
    simp
theorem tb_open {h t : Int} (hm : h < 2147483646) (ht : 0 ≤ t) (ht2 : t ≤ 4) : asR (tb false h t) [kB, kA] = (tb false (h + 1) (t + 1), [h + 1, t + 1], 0) := by
  have s1 : aset (tb false h t) kB (nxG ⟨h, false, [⟨5, h⟩]⟩) = tb false (h + 1) t := by
    rw [nx_b]
    unfold tb aset
    rw [if_neg kAB]
    unfold aset
    rw [if_pos rfl]
  have s2 : aset (tb false (h + 1) t) kA (nxG ⟨t, false, if t = 0 then [] else [⟨1, t⟩]⟩) = tb false (h + 1) (t + 1) := by
    rw [nx_a ht]
    unfold tb aset
    rw [if_pos rfl]
  have e1 : asE (tb false h t) [kB, kA] = 0 := by
    unfold asE
    rw [tb_b]
    simp only
    rw [if_neg (by decide), if_neg (by omega)]
    unfold asE
    rw [tb_a]
    simp only
    rw [if_neg (by decide), if_neg (by omega)]
    rfl
  have e2 : asS (tb false h t) [kB, kA] = tb false (h + 1) (t + 1) := by
    unfold asS
    rw [tb_b]
    simp only
    rw [s1]
    unfold asS
    rw [tb_a]
    simp only
    rw [s2]
    rfl
  have e3 : asN (tb false h t) [kB, kA] = [h + 1, t + 1] := by
    unfold asN
    rw [tb_b]
    simp only
    rw [s1]
    unfold asN
    rw [tb_a]
    simp only
    rfl
  unfold asR
  rw [if_neg (by decide), if_neg (by simpa using nd_ba), if_neg (by rw [e1]; decide), e2, e3]
theorem tb_all (f : Bool) {h t : Int} (h5 : 5 ≤ h) (hh : h ≤ 2147483646) (ht : 0 ≤ t ∧ t ≤ 4) : ∃ A', A' = (asR (tb f h t) [kB, kA]).1 ∧ ∃ ga, aget A' kA = some ga ∧ ∃ gb, aget A' kB = some gb ∧ lowI gb = 5 ∧ ((exI gb.l).length : Int) = gb.h - 4 ∧
    ((f = true ∧ h < 2147483646 ∧ asR (tb f h t) [kB, kA] = (A', [], 10) ∧ A' = tb f h t ∧ ga.h = t ∧ gb.h = h) ∨
     (f = false ∧ h < 2147483646 ∧ asR (tb f h t) [kB, kA] = (A', [h + 1, t + 1], 0) ∧ A' = tb f (h + 1) (t + 1) ∧ ga.h = t + 1 ∧ gb.h = h + 1) ∨
     (¬ h < 2147483646 ∧ asR (tb f h t) [kB, kA] = (A', [], 9) ∧ A' = tb f h t ∧ ga.h = t ∧ gb.h = h)) := by
  rcases Int.lt_or_le h 2147483646 with hm | hm
  · cases f with
    | true =>
      have e := tb_closed (h := h) (t := t) hm
      exact ⟨tb true h t, by rw [e], _, tb_a, _, tb_b, rfl, tb_cnt h5, .inl ⟨rfl, hm, e, rfl, rfl, rfl⟩⟩
    | false =>
      have e := tb_open (h := h) (t := t) hm ht.1 ht.2
      exact ⟨tb false (h + 1) (t + 1), by rw [e], _, tb_a, _, tb_b, rfl, tb_cnt (by omega), .inr (.inl ⟨rfl, hm, e, rfl, rfl, rfl⟩)⟩
  · have e := tb_full (cl := f) (t := t) (show h = 2147483646 by omega)
    exact ⟨tb f h t, by rw [e], _, tb_a, _, tb_b, rfl, tb_cnt h5, .inr (.inr ⟨by omega, e, rfl, rfl, rfl⟩)⟩
set_option maxRecDepth 100000 in
theorem gnAB : gnC kA kB < 0 := by decide +kernel
set_option maxRecDepth 100000 in
theorem gnEA : gnE kA = 0 := by kernel_rfl
set_option maxRecDepth 100000 in
theorem gnEB : gnE kB = 0 := by kernel_rfl
theorem tb_wf {h : Int} (h5 : 5 ≤ h) (hm : h ≤ 2147483646) : WF (tb false h 0) := by
  have hp : ∀ p ∈ tb false h 0, p = (kA, ⟨0, false, []⟩) ∨ p = (kB, ⟨h, false, [⟨5, h⟩]⟩) := fun p hp => by
    unfold tb at hp
    rw [if_pos rfl] at hp
    simpa using hp
  refine ⟨?_, fun p h1 => ?_, fun p h1 => ?_, fun p h1 => ?_⟩
  · unfold tb KSort
    rw [List.pairwise_cons]
    exact ⟨fun p h1 => by rw [List.mem_singleton.1 h1]; exact gnAB, List.pairwise_singleton _ _⟩
  · rcases hp p h1 with rfl | rfl
    · exact gnEA
    · exact gnEB
  · rcases hp p h1 with rfl | rfl
    · exact ⟨Int.le_refl _, by show (0 : Int) ≤ 2147483646; omega⟩
    · exact ⟨by show 0 ≤ h; omega, hm⟩
  · rcases hp p h1 with rfl | rfl
    · trivial
    · exact ⟨by show (1 : Int) ≤ 5; omega, h5, Int.le_refl _, trivial⟩
set_option maxRecDepth 100000 in
theorem lt1 : (⟨#[97, 32, 48, 32, 121, 10, 98, 32]⟩ : ByteArray) = (kA ++ ⟨#[32]⟩ ++ decI 0 ++ (⟨#[32]⟩ ++ ynT false) ++ ⟨#[10]⟩) ++ (kB ++ ⟨#[32]⟩) := by kernel_rfl
set_option maxRecDepth 100000 in
theorem lt2 : (⟨#[32, 121, 32, 53, 45]⟩ : ByteArray) = (⟨#[32]⟩ ++ ynT false) ++ (⟨#[32]⟩ ++ (decI 5 ++ ⟨#[45]⟩)) := by kernel_rfl
theorem tb_text {h : Int} (h5 : 5 < h) : (⟨#[97, 32, 48, 32, 121, 10, 98, 32]⟩ : ByteArray) ++ decI h ++ ⟨#[32, 121, 32, 53, 45]⟩ ++ decI h ++ ⟨#[10]⟩ = prT (tb false h 0) := by
  unfold tb
  rw [if_pos rfl, prT_cons, prT_cons, lnT_none rfl, lnT_some (by simp), lt1, lt2]
  have e : rngT [(⟨5, h⟩ : Iv)] = decI 5 ++ ⟨#[45]⟩ ++ decI h := by
    show ivT ⟨5, h⟩ = _
    unfold ivT
    rw [if_pos h5]
  show _ = _ ++ (_ ++ ByteArray.empty)
  simp only [e, ByteArray.append_assoc, ByteArray.append_empty]
set_option maxRecDepth 100000 in
set_option maxHeartbeats 8000000 in
theorem laclimits_any (x : Int) (hx : 0 ≤ x ∧ x ≤ 255) (f : Bool) (w : World) (hG : GW w) (hGT : GT w) :
    Calls Tryz.prog 6 #[.int .u8 x, .bool f] w fun e w' => e = .returned (.bool true) ∧ K0 w w' := by
  refine vc_acllimits x f w _ ?_
  unfold VC_acllimits
  rw [wr64 (x := x) (by omega) (by omega), Int.tmod_eq_emod_of_nonneg hx.1]
  obtain ⟨r, hr, hr4⟩ : ∃ r : Nat, x % 4 = (r : Int) ∧ r < 4 := ⟨(x % 4).toNat, by omega, by omega⟩
  rw [hr, wr64 (x := 2147483646 - (r : Int)) (by omega) (by omega), show (2147483646 : Int) - (r : Int) = ((2147483646 - r : Nat) : Int) by omega]
  have hdg := dgF_dec hr4
  have zD := decI_size (x := ((2147483646 - r : Nat) : Int)) ⟨by omega, by omega⟩
  have z8 : (ByteArray.mk #[97, 32, 48, 32, 121, 10, 98, 32]).size = 8 := rfl
  have z5 : (ByteArray.mk #[32, 121, 32, 53, 45]).size = 5 := rfl
  have hd := fun w => acldigits_any (2147483646 - r) (by omega) (by omega) w
  rw [hdg] at hd
  refine ⟨(hd w).mono fun e w1 ⟨he, hw⟩ => ⟨_, he, by rw [hw]; exact .refl _ _, nneg (by simp only [z8]; omega), nneg (by simp only [ByteArray.size_append, z8, z5]; omega), ?_⟩⟩
  subst hw
  refine ⟨(hd w1).mono fun e w2 ⟨he, hw⟩ => ⟨_, he, by rw [hw]; exact .refl _ _, nneg (by simp only [ByteArray.size_append, z8, z5]; omega), nneg (by simp only [ByteArray.size_append, z8, z5, z10]; omega), ?_⟩⟩
  subst hw
  rw [tb_text (by omega)]
  have hwf := tb_wf (h := ((2147483646 - r : Nat) : Int)) (by omega) (by omega)
  have hpp := parse_print hwf (show 2 ≤ 4096 by decide)
  have hsz : (prT (tb false ((2147483646 - r : Nat) : Int) 0)).size ≤ 1048576 := by
    rw [← tb_text (by omega)]
    simp only [ByteArray.size_append, z8, z5, z10]
    omega
  refine ⟨(acparse_any _ w2 hsz (gw_lt hG) hG).mono fun e w3 hP => ?_⟩
  rw [hpp] at hP
  obtain ⟨⟨b, mb, m, he, hq3⟩, k3⟩ := hP
  refine ⟨_, _, _, he, .of_k0 k3, ?_⟩
  refine ⟨(acknown_any w3 (gk0 hG k3) (hGT.k0 k3)).mono fun e w4 ⟨he, k4⟩ => ⟨_, he, .of_k0 k4, bsp_intro (fun h => by cases h) (fun _ => bsp_intro (fun hf => ?_) (fun hf => ⟨.refl _ _, ?_⟩))⟩⟩
  · have hf : f = true := hf
    have hcl : clA (tb false ((2147483646 - r : Nat) : Int) 0) kA = (tb f ((2147483646 - r : Nat) : Int) 0, 0) := by
      rw [hf]
      unfold clA
      rw [tb_a]
      simp only
      rw [if_neg (by decide)]
      unfold tb aset
      simp
    refine ⟨(acclose_any (hq3.k0 k4) kA (by decide)).mono fun e w5 ⟨he, m5, hTs5⟩ => ?_⟩
    rw [hcl] at he hTs5
    refine ⟨_, he, ⟨hTs5.k.size, fun _ hm => by cases hm⟩, bsp_intro (fun h => by cases h) (fun _ => ?_)⟩
    have k05 : K0 w2 w5 := hTs5.base (hq3.k0 k4).z (k3.trans k4) (Nat.le_refl _)
    have hq5 := hTs5.t
    have hB : w2.heap.size ≤ w2.heap.size := Nat.le_refl _

    refine ⟨fun vs w' => ∃ (i t : Nat) (m : TM), vs = [.int .i64 (i : Int), .int .i64 ((2147483646 - r + t : Nat) : Int)] ∧ i ≤ 5 ∧ t ≤ r ∧ (f = true → t = 0) ∧ Tq w' w2.heap.size b mb m (tb f ((2147483646 - r + t : Nat) : Int) (t : Int)) ∧ K0 w2 w',
      fun vs _ => (match vs with | .int _ a :: _ => 5 - a.toNat | _ => 0), ⟨0, 0, _, rfl, by omega, by omega, fun _ => rfl, hq5, k05⟩, ?_⟩
    rintro xi xh w6 ⟨i, t, m, hv, hi, ht, ht0, hq, k6⟩
    simp only [List.cons.injEq, Value.int.injEq, true_and, and_true] at hv
    obtain ⟨rfl, rfl⟩ := hv
    refine bsp_intro (fun hlt n W hW => ?_) (fun hge => ⟨rfl, k6⟩)
    have hlt : i < 5 := by simp only [decide_eq_true_eq] at hlt; omega
    have kW : K0 w6 W := hW.kk rfl
    have hcn : W.heap[n]? = some (.cells #[.string kB, .string kA] 9 (0, 0)) := hW.cells 0 rfl
    obtain ⟨h, hh⟩ : ∃ h : Int, h = ((2147483646 - r + t : Nat) : Int) := ⟨_, rfl⟩
    rw [← hh] at hq ⊢
    have hcall := acassign_any (hq.k0 kW) [kB, kA] (some ⟨n, 0, none⟩) 2 (strP_lit (zs := [kB, kA]) hcn) (ty_lit hcn) (by decide) (by decide) (by decide)
    refine ⟨hcall.mono fun e w7 ⟨⟨p7, c7, he, hr7, _⟩, m', hTs⟩ => ⟨_, _, _, _, he, ⟨hTs.k.size, fun _ hm => by cases hm⟩, ?_⟩⟩
    have k7 : K0 w2 w7 := hTs.base (hq.k0 kW).z (k6.trans kW) hB
    have hq7 := hTs.t
    -- what the tables say
    obtain ⟨A', hA', ga, hga, gb, hgb, hgl, hbh, hst⟩ := tb_all f (h := h) (t := (t : Int)) (by omega) (by omega) (by omega)
    rw [← hA'] at hq7
    refine ⟨(acget_any hq7 kA (by decide)).mono fun e w8 ⟨he, k8⟩ => ?_⟩
    rw [hga] at he
    refine ⟨_, _, _, _, _, _, he, .of_k0 k8, fun n9 W9 hW9 => ?_⟩
    have k9 : K0 w7 W9 := k8.trans (hW9.kk rfl)
    have hc9 : W9.heap[n9]? = some (.cells #[.string kA, .int .i64 (lowI ga), .int .i64 ga.h, .int .i64 ((exI ga.l).length : Nat), .bool ga.c] 31 (0, 0)) := hW9.cells 0 rfl
    refine ⟨(acget_any (hq7.k0 k9) kB (by decide)).mono fun e w10 ⟨he, k10⟩ => ?_⟩
    rw [hgb] at he
    refine ⟨_, _, _, _, _, _, he, .of_k0 k10, fun n11 => ?_⟩
    have hA9 : ∀ {W : World}, K0 w10 W → W.cell? ⟨n9, 0 + 2, none⟩ = some (.int .i64 ga.h) := fun k => cell_at ((k10.trans k).blk hc9 (fun h => h)) rfl
    have h010 := (k7.trans k9).trans k10
    rcases hst with ⟨hf, hm, e1, e2, e3, e4⟩ | ⟨hf, hm, e1, e2, e3, e4⟩ | ⟨hm, e1, e2, e3, e4⟩
    · subst hf
      refine bsp_intro (fun _ => ?_) (fun hb => by simp only [Bool.true_and, decide_eq_false_iff_not] at hb; exact absurd hm hb)
      rw [e1]
      refine ⟨ga.h, gimp_intro fun _ W hW => hA9 (hW.kk rfl), gb.h, gimp_intro fun _ W hW => cell_at (hW.cells 0 rfl) rfl, bsp_intro (fun hb => ?_) (fun _ W hW => ?_)⟩
      · exfalso
        rw [e3, e4] at hb
        have : t = 0 := ht0 rfl
        subst this
        simp at hb
      · rw [inc64 (by omega), hh]
        rw [e2, hh] at hq7
        exact ⟨⟨i + 1, t, m', rfl, by omega, ht, ht0, hq7.k0 ((k9.trans k10).trans (hW.kk rfl)), h010.trans (hW.kk rfl)⟩, by simp only [Int.toNat_natCast]; omega⟩
    · subst hf
      refine bsp_intro (fun hb => by cases hb) (fun _ => bsp_intro (fun _ => ?_) (fun hb => by simp only [decide_eq_false_iff_not] at hb; exact absurd hm hb))
      rw [e1] at hr7 ⊢
      rw [wr64 (x := h + 1) (by omega) (by omega), wr64 (x := h + 1 - 4) (by omega) (by omega)]
      have hr10 := hr7.k0 (k9.trans k10)
      obtain ⟨y0, b0, o0, hy0, hp0, hat0⟩ := hr10.get (k := 0) (show 0 < 2 by decide)
      obtain ⟨y1, b1, o1, hy1, hp1, hat1⟩ := hr10.get (k := 1) (show 1 < 2 by decide)
      rw [hp0] at hp1
      cases hp1
      cases hy0
      cases hy1
      rw [Nat.zero_mul, Nat.add_zero] at hat0
      refine nn_is hp0 ⟨gimp_intro fun _ => ⟨by omega, show (0 : Int) < ((2 : Nat) : Int) by decide⟩, h + 1, gimp_intro fun _ W hW => (hat0.k0 (hW.kk rfl)).cell (j := 1) rfl, gb.h, gimp_intro fun _ W hW => cell_at (hW.cells 0 rfl) rfl, lowI gb, gimp_intro fun _ W hW => cell_at (hW.cells 0 rfl) rfl, ((exI gb.l).length : Nat), gimp_intro fun _ W hW => cell_at (hW.cells 0 rfl) rfl, nn_is hp0 ⟨gimp_intro fun _ => ⟨by omega, show (1 : Int) < ((2 : Nat) : Int) by decide⟩, (t : Int) + 1, gimp_intro fun _ W hW => (hat1.k0 (hW.kk rfl)).cell (j := 1) rfl, ga.h, gimp_intro fun _ W hW => hA9 (hW.kk rfl), bsp_intro (fun hb => ?_) (fun _ W hW => ?_)⟩⟩
      · exfalso
        rw [hgl, hbh, e3, e4] at hb
        simp at hb
      · rw [inc64 (by omega)]
        have hh2 : h + 1 = ((2147483646 - r + (t + 1) : Nat) : Int) := by omega
        have hh3 : (t : Int) + 1 = ((t + 1 : Nat) : Int) := by omega
        rw [e2, hh2, hh3] at hq7
        rw [hh2]
        exact ⟨⟨i + 1, t + 1, m', rfl, by omega, by omega, (fun e => by cases e), hq7.k0 ((k9.trans k10).trans (hW.kk rfl)), h010.trans (hW.kk rfl)⟩, by simp only [Int.toNat_natCast]; omega⟩
    · have hm2 : decide (h < 2147483646) = false := by simp only [decide_eq_false_iff_not]; exact hm
      rw [hm2, Bool.and_false]
      refine bsp_intro (fun hb => by cases hb) (fun _ => bsp_intro (fun hb => by cases hb) (fun _ => ?_))
      rw [e1]
      refine ⟨gb.h, gimp_intro fun _ W hW => cell_at (hW.cells 0 rfl) rfl, ga.h, gimp_intro fun _ W hW => hA9 (hW.kk rfl), bsp_intro (fun hb => ?_) (fun _ W hW => ?_)⟩
      · exfalso
        rw [e3, e4] at hb
        simp at hb
        omega
      · rw [inc64 (by omega), hh]
        rw [e2, hh] at hq7
        exact ⟨⟨i + 1, t, m', rfl, by omega, ht, ht0, hq7.k0 ((k9.trans k10).trans (hW.kk rfl)), h010.trans (hW.kk rfl)⟩, by simp only [Int.toNat_natCast]; omega⟩

  · have hf : f = false := hf
    have k05 := k3.trans k4
    have hq5 : Tq w4 w2.heap.size b mb m (tb f ((2147483646 - r : Nat) : Int) 0) := by rw [hf]; exact hq3.k0 k4
    have hB : w2.heap.size ≤ w2.heap.size := Nat.le_refl _

    refine ⟨fun vs w' => ∃ (i t : Nat) (m : TM), vs = [.int .i64 (i : Int), .int .i64 ((2147483646 - r + t : Nat) : Int)] ∧ i ≤ 5 ∧ t ≤ r ∧ (f = true → t = 0) ∧ Tq w' w2.heap.size b mb m (tb f ((2147483646 - r + t : Nat) : Int) (t : Int)) ∧ K0 w2 w',
      fun vs _ => (match vs with | .int _ a :: _ => 5 - a.toNat | _ => 0), ⟨0, 0, _, rfl, by omega, by omega, fun _ => rfl, hq5, k05⟩, ?_⟩
    rintro xi xh w6 ⟨i, t, m, hv, hi, ht, ht0, hq, k6⟩
    simp only [List.cons.injEq, Value.int.injEq, true_and, and_true] at hv
    obtain ⟨rfl, rfl⟩ := hv
    refine bsp_intro (fun hlt n W hW => ?_) (fun hge => ⟨rfl, k6⟩)
    have hlt : i < 5 := by simp only [decide_eq_true_eq] at hlt; omega
    have kW : K0 w6 W := hW.kk rfl
    have hcn : W.heap[n]? = some (.cells #[.string kB, .string kA] 9 (0, 0)) := hW.cells 0 rfl
    obtain ⟨h, hh⟩ : ∃ h : Int, h = ((2147483646 - r + t : Nat) : Int) := ⟨_, rfl⟩
    rw [← hh] at hq ⊢
    have hcall := acassign_any (hq.k0 kW) [kB, kA] (some ⟨n, 0, none⟩) 2 (strP_lit (zs := [kB, kA]) hcn) (ty_lit hcn) (by decide) (by decide) (by decide)
    refine ⟨hcall.mono fun e w7 ⟨⟨p7, c7, he, hr7, _⟩, m', hTs⟩ => ⟨_, _, _, _, he, ⟨hTs.k.size, fun _ hm => by cases hm⟩, ?_⟩⟩
    have k7 : K0 w2 w7 := hTs.base (hq.k0 kW).z (k6.trans kW) hB
    have hq7 := hTs.t
    -- what the tables say
    obtain ⟨A', hA', ga, hga, gb, hgb, hgl, hbh, hst⟩ := tb_all f (h := h) (t := (t : Int)) (by omega) (by omega) (by omega)
    rw [← hA'] at hq7
    refine ⟨(acget_any hq7 kA (by decide)).mono fun e w8 ⟨he, k8⟩ => ?_⟩
    rw [hga] at he
    refine ⟨_, _, _, _, _, _, he, .of_k0 k8, fun n9 W9 hW9 => ?_⟩
    have k9 : K0 w7 W9 := k8.trans (hW9.kk rfl)
    have hc9 : W9.heap[n9]? = some (.cells #[.string kA, .int .i64 (lowI ga), .int .i64 ga.h, .int .i64 ((exI ga.l).length : Nat), .bool ga.c] 31 (0, 0)) := hW9.cells 0 rfl
    refine ⟨(acget_any (hq7.k0 k9) kB (by decide)).mono fun e w10 ⟨he, k10⟩ => ?_⟩
    rw [hgb] at he
    refine ⟨_, _, _, _, _, _, he, .of_k0 k10, fun n11 => ?_⟩
    have hA9 : ∀ {W : World}, K0 w10 W → W.cell? ⟨n9, 0 + 2, none⟩ = some (.int .i64 ga.h) := fun k => cell_at ((k10.trans k).blk hc9 (fun h => h)) rfl
    have h010 := (k7.trans k9).trans k10
    rcases hst with ⟨hf, hm, e1, e2, e3, e4⟩ | ⟨hf, hm, e1, e2, e3, e4⟩ | ⟨hm, e1, e2, e3, e4⟩
    · subst hf
      refine bsp_intro (fun _ => ?_) (fun hb => by simp only [Bool.true_and, decide_eq_false_iff_not] at hb; exact absurd hm hb)
      rw [e1]
      refine ⟨ga.h, gimp_intro fun _ W hW => hA9 (hW.kk rfl), gb.h, gimp_intro fun _ W hW => cell_at (hW.cells 0 rfl) rfl, bsp_intro (fun hb => ?_) (fun _ W hW => ?_)⟩
      · exfalso
        rw [e3, e4] at hb
        have : t = 0 := ht0 rfl
        subst this
        simp at hb
      · rw [inc64 (by omega), hh]
        rw [e2, hh] at hq7
        exact ⟨⟨i + 1, t, m', rfl, by omega, ht, ht0, hq7.k0 ((k9.trans k10).trans (hW.kk rfl)), h010.trans (hW.kk rfl)⟩, by simp only [Int.toNat_natCast]; omega⟩
    · subst hf
      refine bsp_intro (fun hb => by cases hb) (fun _ => bsp_intro (fun _ => ?_) (fun hb => by simp only [decide_eq_false_iff_not] at hb; exact absurd hm hb))
      rw [e1] at hr7 ⊢
      rw [wr64 (x := h + 1) (by omega) (by omega), wr64 (x := h + 1 - 4) (by omega) (by omega)]
      have hr10 := hr7.k0 (k9.trans k10)
      obtain ⟨y0, b0, o0, hy0, hp0, hat0⟩ := hr10.get (k := 0) (show 0 < 2 by decide)
      obtain ⟨y1, b1, o1, hy1, hp1, hat1⟩ := hr10.get (k := 1) (show 1 < 2 by decide)
      rw [hp0] at hp1
      cases hp1
      cases hy0
      cases hy1
      rw [Nat.zero_mul, Nat.add_zero] at hat0
      refine nn_is hp0 ⟨gimp_intro fun _ => ⟨by omega, show (0 : Int) < ((2 : Nat) : Int) by decide⟩, h + 1, gimp_intro fun _ W hW => (hat0.k0 (hW.kk rfl)).cell (j := 1) rfl, gb.h, gimp_intro fun _ W hW => cell_at (hW.cells 0 rfl) rfl, lowI gb, gimp_intro fun _ W hW => cell_at (hW.cells 0 rfl) rfl, ((exI gb.l).length : Nat), gimp_intro fun _ W hW => cell_at (hW.cells 0 rfl) rfl, nn_is hp0 ⟨gimp_intro fun _ => ⟨by omega, show (1 : Int) < ((2 : Nat) : Int) by decide⟩, (t : Int) + 1, gimp_intro fun _ W hW => (hat1.k0 (hW.kk rfl)).cell (j := 1) rfl, ga.h, gimp_intro fun _ W hW => hA9 (hW.kk rfl), bsp_intro (fun hb => ?_) (fun _ W hW => ?_)⟩⟩
      · exfalso
        rw [hgl, hbh, e3, e4] at hb
        simp at hb
      · rw [inc64 (by omega)]
        have hh2 : h + 1 = ((2147483646 - r + (t + 1) : Nat) : Int) := by omega
        have hh3 : (t : Int) + 1 = ((t + 1 : Nat) : Int) := by omega
        rw [e2, hh2, hh3] at hq7
        rw [hh2]
        exact ⟨⟨i + 1, t + 1, m', rfl, by omega, by omega, (fun e => by cases e), hq7.k0 ((k9.trans k10).trans (hW.kk rfl)), h010.trans (hW.kk rfl)⟩, by simp only [Int.toNat_natCast]; omega⟩
    · have hm2 : decide (h < 2147483646) = false := by simp only [decide_eq_false_iff_not]; exact hm
      rw [hm2, Bool.and_false]
      refine bsp_intro (fun hb => by cases hb) (fun _ => bsp_intro (fun hb => by cases hb) (fun _ => ?_))
      rw [e1]
      refine ⟨gb.h, gimp_intro fun _ W hW => cell_at (hW.cells 0 rfl) rfl, ga.h, gimp_intro fun _ W hW => hA9 (hW.kk rfl), bsp_intro (fun hb => ?_) (fun _ W hW => ?_)⟩
      · exfalso
        rw [e3, e4] at hb
        simp at hb
        omega
      · rw [inc64 (by omega), hh]
        rw [e2, hh] at hq7
        exact ⟨⟨i + 1, t, m', rfl, by omega, ht, ht0, hq7.k0 ((k9.trans k10).trans (hW.kk rfl)), h010.trans (hW.kk rfl)⟩, by simp only [Int.toNat_natCast]; omega⟩

end Go.Proofs.YtgmmoghagpmpfaaGreatDoor
