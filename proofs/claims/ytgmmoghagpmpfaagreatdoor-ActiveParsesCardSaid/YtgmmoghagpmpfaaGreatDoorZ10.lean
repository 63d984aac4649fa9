/- The formulas of functions by the symbolic evaluator, and that each gives the call's contract. Written by a program (gen.py). No condition. -/
import Derived.Test.YtgmmoghagpmpfaaGreatDoorProg
import Derived.Test.YtgmmoghagpmpfaaGreatDoorZ02
import Derived.Test.YtgmmoghagpmpfaaGreatDoorZ05
import Derived.KernelRfl
import Derived.Test.YtgmmoghagpmpfaaGreatDoorZ09
import Derived.Test.YtgmmoghagpmpfaaGreatDoorZ07
import Derived.Test.YtgmmoghagpmpfaaGreatDoorZ04
namespace Go.Proofs.YtgmmoghagpmpfaaGreatDoor
set_option maxRecDepth 100000
set_option linter.unusedVariables false

def VC_acprint1 (b : Nat) (w : World) (R : Ending → World → Prop) : Prop :=
 ∀ (n : Nat) (w1 : World),
 NewB w (Obj.cells #[Value.pointer none, Value.slice none 0 0] 109) n w1 →
 CallsS Tryz.prog 18 #[Value.pointer (some (Addr.mk b 0 none))] w1 fun (e : Ending) (w' : World) =>
 ∃ (p : Option Addr),
 ∃ (n_1 : Nat),
 ∃ (c : Nat),
 e = Ending.returned (Value.slice p n_1 c) ∧
 ∃ (I : List Value → World → Prop),
 ∃ (m : List Value → World → Nat),
 I [Value.int IntKind.i64 0] w' ∧
 ∀ (x : Int) (w' : World),
 I [Value.int IntKind.i64 x] w' →
 bsp (decide (x < (↑n_1 : Int)))
 (nn true p fun (b_1 o : Nat) =>
 (0 ≤ x ∧ x < (↑n_1 : Int)) ∧
 ∃ (x_1 : ByteArray),
 w'.cell? (Addr.mk b_1 (o + x.toNat) none) = some (Value.string x_1) ∧
 ∃ (x_2 : Option Nat),
 w'.cell? (Addr.mk b 0 none) = some (Value.map x_2) ∧
 ∃ (x_3 : Int),
 ∃ (x_4 : Bool),
 ∃ (p : Option Addr),
 ∃ (n_2 : Nat),
 ∃ (c : Nat),
 LookP Tryz.prog 97 (Value.map x_2) (Value.string x_1) false
 (Value.agg #[Value.int IntKind.i64 x_3, Value.bool x_4, Value.slice p n_2 c]) w' ∧
 ∀ (n_3 : Nat) (w1 : World),
 NewB w' (Obj.cells #[Value.int IntKind.i64 0, Value.bool false, Value.slice none 0 0] 94) n_3
 w1 →
 WrL w1 n_3 0 3 ∧
 ∀ (w1_1 : World),
 PutB w1 n_3 0 [Value.int IntKind.i64 x_3, Value.bool x_4, Value.slice p n_2 c] w1_1 →
 ∃ (x_5 : Int),
 w1_1.cell? (Addr.mk n_3 0 none) = some (Value.int IntKind.i64 x_5) ∧
 CallsS Tryz.prog 46 #[Value.int IntKind.i64 x_5] w1_1 fun (e : Ending) (w'_1 : World) =>
 ∃ (x_6 : ByteArray),
 e = Ending.returned (Value.string x_6) ∧
 ∀ (n_4 : Nat) (w1 : World),
 NewB w'_1
 (Obj.cells
 #[Value.string x_1, Value.string x_6, Value.string (ByteArray.mk #[121])] 9)
 n_4 w1 →
 ∃ (x_7 : Bool),
 w1.cell? (Addr.mk n_3 (0 + 1) none) = some (Value.bool x_7) ∧
 bsp x_7
 (((0 : Int) ≤ 2 ∧ 2 < (↑3 : Int)) ∧
 ((∃ (u : Value), w1.cell? (Addr.mk n_4 2 none) = some u) ∧
 w1.frozen? (Addr.mk n_4 2 none) = false) ∧
 ∀ (w1_2 : World),
 PutB w1 n_4 2 [Value.string (ByteArray.mk #[110])] w1_2 →
 ∃ (p : Option Addr),
 ∃ (n_5 : Nat),
 ∃ (c : Nat),
 w1_2.cell? (Addr.mk n_3 (0 + 2) none) = some (Value.slice p n_5 c) ∧
 bsp (decide ((↑n_5 : Int) > 0))
 (∃ (p : Option Addr),
 ∃ (n_6 : Nat),
 ∃ (c : Nat),
 w1_2.cell? (Addr.mk n_3 (0 + 2) none) = some (Value.slice p n_6 c) ∧
 CallsS Tryz.prog 47 #[Value.slice p n_6 c] w1_2
 fun (e : Ending) (w'_2 : World) =>
 ∃ (x_8 : ByteArray),
 e = Ending.returned (Value.string x_8) ∧
 ∀ (n_7 : Nat) (w1 : World),
 NewB w'_2 (Obj.cells #[Value.string x_8] 9) n_7 w1 →
 ∃ (base : Nat),
 ∃ (xs : List Value),
 ∃ (news : List Value),
 w1.ownsRow base 9 1
 (Value.slice (some (Addr.mk n_4 0 none)) 3 3) 3 xs ∧
 news.length = 1 ∧
 SrcP w1 (some (Addr.mk n_7 0 none)) news ∧
 (4 : Nat) ≤ 9223372036854775807 ∧
 (64 : Nat) ≤ 140737488355328 ∧
 base ≤ w1.heap.size ∧
 ∀ (p' : Option Addr) (c' : Nat) (w'_3 : World),
 w'_3.ownsRow base 9 1 (Value.slice p' 4 c') 4
 (xs ++ news) →
 w1.grownBy w'_3
 (Value.slice (some (Addr.mk n_4 0 none)) 3
 3).ownBlock →
 AppL w1 (some (Addr.mk n_4 0 none)) 3 3 1 p' c' →
 CallsS Tryz.prog 49
 #[Value.slice p' 4 c',
 Value.string (ByteArray.mk #[32])]
 w'_3 fun (e : Ending) (w'_4 : World) =>
 ∃ (x_9 : ByteArray),
 e = Ending.returned (Value.string x_9) ∧
 CallsS Tryz.prog 48
 #[Value.pointer (some (Addr.mk n 0 none)),
 Value.string x_9]
 w'_4 fun (e : Ending) (w'_5 : World) =>
 ∃ (x_10 : Int),
 ∃ (x_11 : Value),
 e =
 Ending.returned
 (Value.tuple
 #[Value.int IntKind.i64 x_10, x_11]) ∧
 CallsS Tryz.prog 48
 #[Value.pointer
 (some (Addr.mk n 0 none)),
 Value.string (ByteArray.mk #[10])]
 w'_5 fun (e : Ending) (w'_6 : World) =>
 ∃ (x_12 : Int),
 ∃ (x_13 : Value),
 e =
 Ending.returned
 (Value.tuple
 #[Value.int IntKind.i64 x_12,
 x_13]) ∧
 I
 [Value.int IntKind.i64
 (IntKind.i64.wrap (x + 1))]
 w'_6 ∧
 m
 [Value.int IntKind.i64
 (IntKind.i64.wrap (x + 1))]
 w'_6 <
 m [Value.int IntKind.i64 x] w')
 (CallsS Tryz.prog 49
 #[Value.slice (some (Addr.mk n_4 0 none)) 3 3,
 Value.string (ByteArray.mk #[32])]
 w1_2 fun (e : Ending) (w'_2 : World) =>
 ∃ (x_8 : ByteArray),
 e = Ending.returned (Value.string x_8) ∧
 CallsS Tryz.prog 48
 #[Value.pointer (some (Addr.mk n 0 none)), Value.string x_8] w'_2
 fun (e : Ending) (w'_3 : World) =>
 ∃ (x_9 : Int),
 ∃ (x_10 : Value),
 e =
 Ending.returned
 (Value.tuple #[Value.int IntKind.i64 x_9, x_10]) ∧
 CallsS Tryz.prog 48
 #[Value.pointer (some (Addr.mk n 0 none)),
 Value.string (ByteArray.mk #[10])]
 w'_3 fun (e : Ending) (w'_4 : World) =>
 ∃ (x_11 : Int),
 ∃ (x_12 : Value),
 e =
 Ending.returned
 (Value.tuple #[Value.int IntKind.i64 x_11, x_12]) ∧
 I [Value.int IntKind.i64 (IntKind.i64.wrap (x + 1))] w'_4 ∧
 m [Value.int IntKind.i64 (IntKind.i64.wrap (x + 1))] w'_4 <
 m [Value.int IntKind.i64 x] w'))
 (∃ (p : Option Addr),
 ∃ (n_5 : Nat),
 ∃ (c : Nat),
 w1.cell? (Addr.mk n_3 (0 + 2) none) = some (Value.slice p n_5 c) ∧
 bsp (decide ((↑n_5 : Int) > 0))
 (∃ (p : Option Addr),
 ∃ (n_6 : Nat),
 ∃ (c : Nat),
 w1.cell? (Addr.mk n_3 (0 + 2) none) = some (Value.slice p n_6 c) ∧
 CallsS Tryz.prog 47 #[Value.slice p n_6 c] w1
 fun (e : Ending) (w'_2 : World) =>
 ∃ (x_8 : ByteArray),
 e = Ending.returned (Value.string x_8) ∧
 ∀ (n_7 : Nat) (w1 : World),
 NewB w'_2 (Obj.cells #[Value.string x_8] 9) n_7 w1 →
 ∃ (base : Nat),
 ∃ (xs : List Value),
 ∃ (news : List Value),
 w1.ownsRow base 9 1
 (Value.slice (some (Addr.mk n_4 0 none)) 3 3) 3 xs ∧
 news.length = 1 ∧
 SrcP w1 (some (Addr.mk n_7 0 none)) news ∧
 (4 : Nat) ≤ 9223372036854775807 ∧
 (64 : Nat) ≤ 140737488355328 ∧
 base ≤ w1.heap.size ∧
 ∀ (p' : Option Addr) (c' : Nat) (w'_3 : World),
 w'_3.ownsRow base 9 1 (Value.slice p' 4 c') 4
 (xs ++ news) →
 w1.grownBy w'_3
 (Value.slice (some (Addr.mk n_4 0 none)) 3
 3).ownBlock →
 AppL w1 (some (Addr.mk n_4 0 none)) 3 3 1 p' c' →
 CallsS Tryz.prog 49
 #[Value.slice p' 4 c',
 Value.string (ByteArray.mk #[32])]
 w'_3 fun (e : Ending) (w'_4 : World) =>
 ∃ (x_9 : ByteArray),
 e = Ending.returned (Value.string x_9) ∧
 CallsS Tryz.prog 48
 #[Value.pointer (some (Addr.mk n 0 none)),
 Value.string x_9]
 w'_4 fun (e : Ending) (w'_5 : World) =>
 ∃ (x_10 : Int),
 ∃ (x_11 : Value),
 e =
 Ending.returned
 (Value.tuple
 #[Value.int IntKind.i64 x_10, x_11]) ∧
 CallsS Tryz.prog 48
 #[Value.pointer (some (Addr.mk n 0 none)),
 Value.string (ByteArray.mk #[10])]
 w'_5 fun (e : Ending) (w'_6 : World) =>
 ∃ (x_12 : Int),
 ∃ (x_13 : Value),
 e =
 Ending.returned
 (Value.tuple
 #[Value.int IntKind.i64 x_12, x_13]) ∧
 I
 [Value.int IntKind.i64
 (IntKind.i64.wrap (x + 1))]
 w'_6 ∧
 m
 [Value.int IntKind.i64
 (IntKind.i64.wrap (x + 1))]
 w'_6 <
 m [Value.int IntKind.i64 x] w')
 (CallsS Tryz.prog 49
 #[Value.slice (some (Addr.mk n_4 0 none)) 3 3,
 Value.string (ByteArray.mk #[32])]
 w1 fun (e : Ending) (w'_2 : World) =>
 ∃ (x_8 : ByteArray),
 e = Ending.returned (Value.string x_8) ∧
 CallsS Tryz.prog 48
 #[Value.pointer (some (Addr.mk n 0 none)), Value.string x_8] w'_2
 fun (e : Ending) (w'_3 : World) =>
 ∃ (x_9 : Int),
 ∃ (x_10 : Value),
 e =
 Ending.returned (Value.tuple #[Value.int IntKind.i64 x_9, x_10]) ∧
 CallsS Tryz.prog 48
 #[Value.pointer (some (Addr.mk n 0 none)),
 Value.string (ByteArray.mk #[10])]
 w'_3 fun (e : Ending) (w'_4 : World) =>
 ∃ (x_11 : Int),
 ∃ (x_12 : Value),
 e =
 Ending.returned
 (Value.tuple #[Value.int IntKind.i64 x_11, x_12]) ∧
 I [Value.int IntKind.i64 (IntKind.i64.wrap (x + 1))] w'_4 ∧
 m [Value.int IntKind.i64 (IntKind.i64.wrap (x + 1))] w'_4 <
 m [Value.int IntKind.i64 x] w')))
 (CallsS Tryz.prog 50 #[Value.pointer (some (Addr.mk n 0 none))] w' fun (e : Ending) (w' : World) =>
 ∃ (x : ByteArray), e = Ending.returned (Value.string x) ∧ R (Ending.returned (Value.string x)) w')
theorem vc_acprint1 (b : Nat) (w : World) (R : Ending → World → Prop) (h : VC_acprint1 b w R) : Calls Tryz.prog 17 ([Value.pointer
    (some { block := b, off := 0 })] : List Value).toArray w R := by
  have e : execR { P := Tryz.prog, loops := [(3, [(11, Ck.int IntKind.i64)])], pur := pur1, tails := [], joins := [], boxes := [] } Tryz.f17.results.toList R (Tryz.f17.body.getD .skip) (initF [Value.pointer
    (some
      { block := b,
        off :=
          0 })] (Tryz.f17.ntmps - ([Value.pointer
    (some { block := b, off := 0 })] : List Value).length)) w = VC_acprint1 b w R := by kernel_rfl
  have hb : Tryz.f17.body = some (Tryz.f17.body.getD .skip) := by kernel_rfl
  exact calls_of_exec' (P := Tryz.prog) (fn := Tryz.f17) (c := Tryz.f17.body.getD .skip) (args := [Value.pointer
    (some { block := b, off := 0 })]) (w := w) (R := R) pur1_ok Tryz.func17 hb e h

end Go.Proofs.YtgmmoghagpmpfaaGreatDoor

/- Chapter 27: the contracts of rangesText and Print. The library's table of powers of ten reads as laid; sets are not too long. -/
namespace Go.Proofs.YtgmmoghagpmpfaaGreatDoor
open Go.RowKit Go.Maps Go.Sort

theorem i64_nat {x : Int} (h : 0 ≤ x ∧ x ≤ 2147483646) : I64 x := ⟨by omega, by omega⟩
theorem ivT_size {x : Iv} (h : 0 ≤ x.a ∧ x.a ≤ x.b ∧ x.b ≤ 2147483646) : (ivT x).size ≤ 43 := by
  have h1 := decI_size (i64_nat (x := x.a) (by omega))
  have h2 := decI_size (i64_nat (x := x.b) (by omega))
  unfold ivT
  split
  · rw [ByteArray.size_append, ByteArray.size_append, size_one]; omega
  · omega
theorem sumZ_iv {hi : Int} : ∀ {lo : Int} {l : List Iv}, 0 ≤ lo → hi ≤ 2147483646 → IvS hi lo l → sumZ (l.map ivT) ≤ 43 * l.length
  | _, [], _, _, _ => Nat.le_refl _
  | lo, x :: t, h0, hh, h => by
    obtain ⟨h1, h2, h3, h4⟩ := h
    have := sumZ_iv (by omega) hh h4
    have := ivT_size (x := x) (by omega)
    rw [List.map_cons, sumZ_cons, List.length_cons]; omega
theorem rngT_size {hi : Int} {l : List Iv} (hh : hi ≤ 2147483646) (h : IvS hi 1 l) : (rngT l).size ≤ 44 * l.length := by
  have h1 := joinT_size 44 (l.map ivT)
  have h2 := sumZ_iv (by omega) hh h
  rw [List.length_map] at h1
  unfold rngT; omega
set_option maxHeartbeats 1000000 in
theorem artext_any (l : List Iv) (p : Option Addr) (c : Nat) {hi : Int} (w : World) (hR : RowA ivC 2 w p l) (hiv : IvS hi 1 l) (hh : hi ≤ 2147483646) (hl : l.length ≤ 1000000) (hT : GT w) :
    Calls Tryz.prog 47 #[.slice p l.length c] w fun e w' => e = .returned (.string (rngT l)) ∧ K0 w w' := by
  refine vc_acrtext p l.length c w _ ?_
  refine ⟨fun vs w' => ∃ (i : Nat) (q : Option Addr) (d : Nat), vs = [.int .i64 (i : Int), .slice q i d] ∧ i ≤ l.length ∧ w'.ownsRow w.heap.size 9 1 (.slice q i d) i (((l.take i).map ivT).map Value.string) ∧ K0 w w',
    fun vs _ => (match vs with | .int _ a :: _ => l.length - a.toNat | _ => 0), ⟨0, none, 0, rfl, by omega, World.ownsRow_nil _ _ _ _, .refl _ _⟩, ?_⟩
  rintro x p1 n1 c1 w1 ⟨i, q, d, hv, hi1, ho, k1⟩
  simp only [List.cons.injEq, Value.int.injEq, Value.slice.injEq, true_and, and_true] at hv
  obtain ⟨rfl, rfl, rfl, rfl⟩ := hv
  refine bsp_intro (fun hlt => ?_) (fun hge => ?_)
  · have hlt : n1 < l.length := by simp at hlt; omega
    obtain ⟨z, zb, zo, hz, hzp, hzat⟩ := (hR.k0 k1).get hlt
    have hzz := hiv.mem z (List.mem_of_getElem? hz)
    have htk := take_snoc hz
    rw [Int.toNat_natCast]
    refine nn_is hzp ⟨⟨by omega, by omega⟩, z.a, z.b, hzat, fun n2 W hW => ?_⟩
    have k2 : K0 w1 W := hW.kk rfl
    have g2 : w1.heap.size ≤ n2 := hW.fresh 0 rfl rfl
    have c2 := hW.cells 0 rfl
    refine ⟨(digits_any z.a W (hT.k0 (k1.trans k2)) (i64_nat (by omega))).mono fun e w3 ⟨he, k3⟩ => ⟨_, he, .of_k0 k3, bsp_intro (fun hb => ?_) (fun hb => ?_)⟩⟩
    · have hb : z.a < z.b := by simpa using hb
      refine ⟨(digits_any z.b w3 (hT.k0 ((k1.trans k2).trans k3)) (i64_nat (by omega))).mono fun e w4 ⟨he, k4⟩ => ⟨_, he, .of_k0 k4, ?_, ?_, fun n3 W5 hW5 => ?_⟩⟩
      · have := decI_size (i64_nat (x := z.b) (by omega))
        rw [size_one]; exact nneg (by omega)
      · have := decI_size (i64_nat (x := z.b) (by omega))
        have := decI_size (i64_nat (x := z.a) (by omega))
        rw [ByteArray.size_append, size_one]; exact nneg (by omega)
      · have k5 : K0 w1 W5 := ((k2.trans k3).trans k4).trans (hW5.kk rfl)
        have ho5 := owns_kp ho k5 (fun _ _ h => h)
        have c25 : W5.heap[n2]? = _ := ((k3.trans k4).trans (hW5.kk rfl)).blk c2 (fun h => h)
        refine ⟨_, _, ho5, by omega, by omega, (k1.trans k5).size, fun p' c' w6 ho6 hg6 _ => ⟨.of_kp (kp_grown hg6) (fun k hk e => ?_), ⟨n1 + 1, p', c', by rw [inc64 (by omega)], hlt, ?_, (k1.trans k5).fresh (kp_grown hg6) (fun j hj e => by have := own_ge ho5 e; omega)⟩, by rw [inc64 (by omega)]; simp only [Int.toNat_natCast]; omega⟩⟩
        · simp only [List.mem_cons, List.not_mem_nil, or_false] at hk
          subst hk
          exact own_not ho5 c25 rfl e
        · have e1 : ivT z = decI z.a ++ (⟨#[45]⟩ ++ decI z.b) := by unfold ivT; rw [if_pos hb, ByteArray.append_assoc]
          have e2 : List.map Value.string (List.map ivT [z]) = [.string (decI z.a ++ (⟨#[45]⟩ ++ decI z.b))] := by show [Value.string (ivT z)] = _; rw [e1]
          rw [htk, List.map_append, List.map_append, e2]
          exact ho6
    · have hb : ¬ z.a < z.b := by simpa using hb
      intro n3 W5 hW5
      have k5 : K0 w1 W5 := (k2.trans k3).trans (hW5.kk rfl)
      have ho5 := owns_kp ho k5 (fun _ _ h => h)
      have c25 : W5.heap[n2]? = _ := (k3.trans (hW5.kk rfl)).blk c2 (fun h => h)
      refine ⟨_, _, ho5, by omega, by omega, (k1.trans k5).size, fun p' c' w6 ho6 hg6 _ => ⟨.of_kp (kp_grown hg6) (fun k hk e => ?_), ⟨n1 + 1, p', c', by rw [inc64 (by omega)], hlt, ?_, (k1.trans k5).fresh (kp_grown hg6) (fun j hj e => by have := own_ge ho5 e; omega)⟩, by rw [inc64 (by omega)]; simp only [Int.toNat_natCast]; omega⟩⟩
      · simp only [List.mem_cons, List.not_mem_nil, or_false] at hk
        subst hk
        exact own_not ho5 c25 rfl e
      · have e1 : ivT z = decI z.a := by unfold ivT; rw [if_neg hb]
        have e2 : List.map Value.string (List.map ivT [z]) = [.string (decI z.a)] := by show [Value.string (ivT z)] = _; rw [e1]
        rw [htk, List.map_append, List.map_append, e2]
        exact ho6
  · have hi2 : n1 = l.length := by simp at hge; omega
    subst hi2
    rw [List.take_length] at ho
    have hS : StrP w1 p1 (l.map ivT) := fun k z hk => by
      obtain ⟨g, v, h1, h2, h3⟩ := own_cell ho (show k < l.length by have := (List.getElem?_eq_some_iff.1 hk).1; simpa using this)
      rw [List.getElem?_map, hk] at h2
      simp at h2
      subst h2
      exact ⟨g, 0, h1, h3⟩
    have hj := join_any 44 (l.map ivT) p1 c1 w1 hS (by simp; omega) (by have := sumZ_iv (by omega) hh hiv; omega) (by simpa using own_le ho)
    rw [List.length_map] at hj
    exact ⟨hj.mono fun e w2 ⟨he, k2⟩ => ⟨_, he, .of_k0 k2, rfl, k1.trans k2⟩⟩

/-- Sizes of lines. -/
theorem lnT_size {s : ByteArray} {v : Gv} (h : LnOK s v) (hl : v.l.length ≤ 1000000) : (lnT (s, v)).size ≤ 44000200 ∧ sumZ (wdT s v) ≤ 44000150 ∧ (wdT s v).length ≤ 4 := by
  have h1 := name_size h.nm
  have h2 := decI_size (i64_nat (x := v.h) ⟨h.h0, h.hi⟩)
  have h3 : (ynT v.c).size = 1 := by unfold ynT; split <;> rfl
  have h4 := rngT_size h.hi h.iv
  have h5 : sumZ (wdT s v) ≤ 44000150 ∧ (wdT s v).length ≤ 4 := by
    unfold wdT
    cases hv : v.l with
    | nil => simp only [sumZ, List.map_cons, List.map_nil, List.sum_cons, List.sum_nil, List.length_cons, List.length_nil]; omega
    | cons x t =>
      rw [hv] at h4 hl
      simp only [sumZ, List.map_cons, List.map_nil, List.sum_cons, List.sum_nil, List.length_cons, List.length_nil] at h4 hl ⊢
      omega
  refine ⟨?_, h5⟩
  have h6 := joinT_size 32 (wdT s v)
  unfold lnT
  rw [ByteArray.size_append, size_one]
  show (joinT 32 (wdT s v)).size + 1 ≤ _
  omega
theorem prT_size : ∀ {A : TA}, (∀ p ∈ A, LnOK p.1 p.2 ∧ p.2.l.length ≤ 1000000) → (prT A).size ≤ 44000200 * A.length
  | [], _ => Nat.le_refl _
  | p :: A, h => by
    have h1 : (lnT p).size ≤ 44000200 := (lnT_size (h p List.mem_cons_self).1 (h p List.mem_cons_self).2).1
    have h2 := prT_size (fun q hq => h q (List.mem_cons_of_mem _ hq))
    rw [prT_cons, ByteArray.size_append, List.length_cons]
    omega
theorem owns_same {w w' : World} {base : Nat} {e : TypeId} {size : Nat} {v : Value} {n : Nat} {xs : List Value} (h : w.ownsRow base e size v n xs) (hk : ∀ k, v.ownBlock = some k → w'.heap[k]? = w.heap[k]?) : w'.ownsRow base e size v n xs := by
  refine ⟨h.1, ?_⟩
  rcases h.2 with h2 | ⟨g, cap, cur, hv, hb, hg, h4⟩
  · exact .inl h2
  · exact .inr ⟨g, cap, cur, hv, hb, by rw [hk g (by rw [hv]; rfl)]; exact hg, h4⟩
theorem strP_own {w : World} {base n c : Nat} {p : Option Addr} {l : List ByteArray} (h : w.ownsRow base 9 1 (.slice p n c) n (l.map Value.string)) (hn : l.length ≤ n) : StrP w p l := fun k z hk => by
  obtain ⟨g, v, h1, h2, h3⟩ := own_cell h (show k < n by have := (List.getElem?_eq_some_iff.1 hk).1; omega)
  rw [List.getElem?_map, hk] at h2
  simp at h2
  subst h2
  exact ⟨g, 0, h1, h3⟩
section
variable {w : World} {B b mb : Nat} {m : TM} {A : TA}
theorem strP_lit {w : World} {n : Nat} {zs : List ByteArray} {t : TypeId} {f : Nat × Nat} (h : w.heap[n]? = some (.cells (zs.map Value.string).toArray t f)) : StrP w (some ⟨n, 0, none⟩) zs := fun j z hj => ⟨n, 0, rfl, by rw [Nat.zero_add, cell_block h]; simp [hj]⟩
theorem own_lit {w : World} {n B : Nat} {zs : List Value} {t : TypeId} (h : w.heap[n]? = some (.cells zs.toArray t (0, 0))) (hB : B ≤ n) (hl : zs.length ≤ 1000) : w.ownsRow B t 1 (.slice (some ⟨n, 0, none⟩) zs.length zs.length) zs.length zs :=
  ⟨by simp, .inr ⟨n, zs.length, zs.toArray, rfl, hB, h, Nat.le_refl _, by unfold maxLen; omega, by simp, by simp⟩⟩
set_option maxHeartbeats 4000000 in
theorem acprint_any (h : Tq w B b mb m A) (hG : GW w) (hT : GT w) (hl : ∀ p ∈ A, p.2.l.length ≤ 1000000) : Calls Tryz.prog 17 #[.pointer (some ⟨b, 0, none⟩)] w fun e w' => e = .returned (.string (prT A)) ∧ K0 w w' := by
  have hln : ∀ p ∈ A, LnOK p.1 p.2 ∧ p.2.l.length ≤ 1000000 := fun p hp => ⟨h.wf.ln hp, hl p hp⟩
  refine vc_acprint1 b w _ (fun n W hW => ?_)
  have kW : K0 w W := hW.kp _
  have gn : w.heap.size ≤ n := hW.ge
  have hB0 := Bld.new hW.block
  have ln := hB0.lt
  refine ⟨(acgroups_any (h.k0 kW) (hG.kp kW (fun h => h))).mono fun e w1 ⟨⟨p, c, he, ho⟩, k1⟩ => ⟨_, _, _, he, ?_⟩⟩
  have hal : (A.map (·.1)).length = A.length := by simp
  rw [hal]
  rw [hal] at ho
  obtain ⟨I, hI⟩ : ∃ I : List Value → World → Prop, I = fun vs w' => ∃ i : Nat, vs = [.int .i64 (i : Int)] ∧ i ≤ A.length ∧ Bld n (prT (A.take i)) w' ∧ w'.ownsRow W.heap.size 9 1 (.slice p A.length c) A.length ((A.map (·.1)).map Value.string) ∧ K0 w w' := ⟨_, rfl⟩
  obtain ⟨M, hM⟩ : ∃ M : List Value → World → Nat, M = fun vs _ => (match vs with | .int _ a :: _ => A.length - a.toNat | _ => 0) := ⟨_, rfl⟩
  refine ⟨I, M, by rw [hI]; exact ⟨0, rfl, by omega, hB0.k0 k1, ho, kW.trans k1⟩, ?_⟩
  intro x w2 hx
  have hx' := hx
  rw [hI] at hx'
  obtain ⟨i, hv, hi, hB2, ho2, k2⟩ := hx'
  simp only [List.cons.injEq, Value.int.injEq, true_and, and_true] at hv
  subst hv
  have hA4 := h.len
  refine bsp_intro (fun hlt => ?_) (fun hge => ?_)
  · have hlt : i < A.length := by simp at hlt; omega
    obtain ⟨pr, hpr⟩ : ∃ y, A[i]? = some y := ⟨_, List.getElem?_eq_getElem hlt⟩
    obtain ⟨s, v⟩ := pr
    have hmem := List.mem_of_getElem? hpr
    have hok : LnOK s v := (hln _ hmem).1
    have hvl : v.l.length ≤ 1000000 := (hln _ hmem).2
    obtain ⟨z1, z2, z3⟩ := lnT_size hok hvl
    have hsz := prT_size (A := A.take i) (fun q hq => hln q (List.take_subset _ _ hq))
    have hsz2 : 44000200 * (A.take i).length ≤ 44000200 * 4096 := Nat.mul_le_mul_left _ (by rw [List.length_take]; omega)
    have hns : (A.map (·.1))[i]? = some s := by rw [List.getElem?_map, hpr]; rfl
    obtain ⟨s', sb, so, hs', hp, hc⟩ := (strP_own ho2 (by simp)).get (show i < (A.map (·.1)).length by simpa using hlt)
    rw [hns] at hs'
    cases hs'
    have h2 := h.k0 k2
    have hgA : aget A s = some v := aget_at h.wf.dis hmem
    have hgm := h.get s
    rw [hgA] at hgm
    cases hy : aget m s with
    | none => rw [hy] at hgm; cases hgm
    | some y =>
      rw [hy] at hgm
      have hyv : v = y.v := Option.some.inj hgm
      subst hyv
      have hss : s.size ≤ 80 := name_size hok.nm
      have hlk : LookP Tryz.prog 97 (.map (some mb)) (.string s) false (gxV y) w2 := by
        have := h2.z.look0 (g := s) (by omega)
        rw [hy] at this
        exact this
      rw [Int.toNat_natCast]
      refine nn_is hp ⟨⟨by omega, by omega⟩, s, hc, some mb, h2.z.cM, y.v.h, y.v.c, y.p, y.v.l.length, y.c, hlk, fun n3 wa ha => ⟨WrL_block ha.block (by show 0 + 3 ≤ 3; omega), fun wb hb => ?_⟩⟩
      have c3 : wb.heap[n3]? = some (.cells #[.int .i64 y.v.h, .bool y.v.c, .slice y.p y.v.l.length y.c] 94 (0, 0)) := hb.full ha.block rfl
      have g3 : w2.heap.size ≤ n3 := ha.ge
      have k2b : K0 w2 wb := put_k0 (ha.kp _) hb g3
      refine ⟨y.v.h, cell_at c3 rfl, ⟨(digits_any y.v.h wb (hT.k0 (k2.trans k2b)) (i64_nat ⟨hok.h0, hok.hi⟩)).mono fun e w4 ⟨he, k4⟩ => ⟨_, he, fun n4 w5 h5 => ?_⟩⟩⟩
      have k25 : K0 w2 w5 := (k2b.trans k4).trans (h5.kp _)
      have c35 := ((k4.trans (h5.kp _)).blk c3 (fun h => h))
      have c45 := h5.block
      have g4 : w2.heap.size ≤ n4 := Nat.le_trans (k2b.trans k4).size h5.ge
      have g43 : n3 < n4 := Nat.lt_of_lt_of_le (block_lt (k4.blk c3 (fun h => h))) h5.ge
      -- the tail of a line
      have tail : ∀ {W5 : World} (ws : List ByteArray) (q : Option Addr) (kk cc : Nat), kk = ws.length → StrP W5 q ws → ws = wdT s y.v → ws.length ≤ cc → K0 w2 W5 →
          CallsS Tryz.prog 49 #[.slice q kk cc, .string ⟨#[32]⟩] W5 fun e w' => ∃ x_6, e = .returned (.string x_6) ∧ CallsS Tryz.prog 48 #[.pointer (some ⟨n, 0, none⟩), .string x_6] w' fun e w'_3 => ∃ x_7 x_8, e = .returned (.tuple #[.int .i64 x_7, x_8]) ∧
            CallsS Tryz.prog 48 #[.pointer (some ⟨n, 0, none⟩), .string ⟨#[10]⟩] w'_3 fun e w'_4 => ∃ x_9 x_10, e = .returned (.tuple #[.int .i64 x_9, x_10]) ∧ I [.int .i64 (IntKind.i64.wrap ((i : Int) + 1))] w'_4 ∧ M [.int .i64 (IntKind.i64.wrap ((i : Int) + 1))] w'_4 < M [.int .i64 (i : Int)] w2 := by
        intro W5 ws q kk cc hkk hS5 hws hcc k5
        subst hkk
        subst hws
        refine ⟨(join_any 32 (wdT s y.v) q cc W5 hS5 (by omega) (by omega) hcc).mono fun e w6 ⟨he, k6⟩ => ⟨_, he, ?_⟩⟩
        have k26 := k5.trans k6
        have hjs := joinT_size 32 (wdT s y.v)
        have hB6 := hB2.k0 k26
        refine ⟨(hB6.write (joinT 32 (wdT s y.v)) (by omega)).mono fun e w7 ⟨he, hB7, k7, f7⟩ => ⟨_, _, he, ?_⟩⟩
        refine ⟨(hB7.write ⟨#[10]⟩ (by rw [ByteArray.size_append, size_one]; omega)).mono fun e w8 ⟨he, hB8, k8, f8⟩ => ⟨_, _, he, ?_, ?_⟩⟩
        · rw [inc64 (by omega), hI]
          refine ⟨i + 1, rfl, hlt, ?_, ?_, ((k2.trans k26).fresh k7 (fun j hj e => by omega)).fresh k8 (fun j hj e => by omega)⟩
          · rw [take_snoc hpr, prT_snoc]
            unfold lnT
            rw [← ByteArray.append_assoc]
            exact hB8
          · have ho6 := owns_kp ho2 k26 (fun _ _ h => h)
            have ho7 : w7.ownsRow W.heap.size 9 1 (.slice p A.length c) A.length ((A.map (·.1)).map Value.string) := owns_same ho6 (fun k hk => by
              obtain ⟨cc', hcc'⟩ := own_type ho6 hk
              exact f7 k _ _ _ hcc' (by have := own_ge ho6 hk; omega) (by decide))
            exact owns_same ho7 (fun k hk => by
              obtain ⟨cc', hcc'⟩ := own_type ho7 hk
              exact f8 k _ _ _ hcc' (by have := own_ge ho7 hk; omega) (by decide))
        · rw [inc64 (by omega), hM]
          show A.length - ((i + 1 : Nat) : Int).toNat < A.length - ((i : Nat) : Int).toNat
          simp only [Int.toNat_natCast]; omega
      -- a line whose three words lie
      have rest : ∀ {W5 : World}, K0 w2 W5 → W5.heap[n3]? = some (.cells #[.int .i64 y.v.h, .bool y.v.c, .slice y.p y.v.l.length y.c] 94 (0, 0)) → W5.heap[n4]? = some (.cells #[.string s, .string (decI y.v.h), .string (ynT y.v.c)] 9 (0, 0)) →
          (∃ (p : Option Addr) (n_5 c : Nat), W5.cell? ⟨n3, 0 + 2, none⟩ = some (.slice p n_5 c) ∧
            bsp (decide ((n_5 : Int) > 0)) (∃ (p : Option Addr) (n_6 c : Nat), W5.cell? ⟨n3, 0 + 2, none⟩ = some (.slice p n_6 c) ∧
              CallsS Tryz.prog 47 #[.slice p n_6 c] W5 fun e w'_2 => ∃ x_8, e = .returned (.string x_8) ∧
                ∀ (n_7 : Nat) (w1 : World), NewB w'_2 (.cells #[.string x_8] 9) n_7 w1 → ∃ (base : Nat) (xs news : List Value), w1.ownsRow base 9 1 (.slice (some ⟨n4, 0, none⟩) 3 3) 3 xs ∧ news.length = 1 ∧ SrcP w1 (some ⟨n_7, 0, none⟩) news ∧ (4 : Nat) ≤ 9223372036854775807 ∧ (64 : Nat) ≤ 140737488355328 ∧ base ≤ w1.heap.size ∧
                ∀ (p' : Option Addr) (c' : Nat) (w'_3 : World), w'_3.ownsRow base 9 1 (.slice p' 4 c') 4 (xs ++ news) → w1.grownBy w'_3 (Value.slice (some ⟨n4, 0, none⟩) 3 3).ownBlock → AppL w1 (some ⟨n4, 0, none⟩) 3 3 1 p' c' →
                CallsS Tryz.prog 49 #[.slice p' 4 c', .string ⟨#[32]⟩] w'_3 fun e w' => ∃ x_6, e = .returned (.string x_6) ∧ CallsS Tryz.prog 48 #[.pointer (some ⟨n, 0, none⟩), .string x_6] w' fun e w'_3 => ∃ x_7 x_8, e = .returned (.tuple #[.int .i64 x_7, x_8]) ∧
            CallsS Tryz.prog 48 #[.pointer (some ⟨n, 0, none⟩), .string ⟨#[10]⟩] w'_3 fun e w'_4 => ∃ x_9 x_10, e = .returned (.tuple #[.int .i64 x_9, x_10]) ∧ I [.int .i64 (IntKind.i64.wrap ((i : Int) + 1))] w'_4 ∧ M [.int .i64 (IntKind.i64.wrap ((i : Int) + 1))] w'_4 < M [.int .i64 (i : Int)] w2)
            (CallsS Tryz.prog 49 #[.slice (some ⟨n4, 0, none⟩) 3 3, .string ⟨#[32]⟩] W5 fun e w' => ∃ x_6, e = .returned (.string x_6) ∧ CallsS Tryz.prog 48 #[.pointer (some ⟨n, 0, none⟩), .string x_6] w' fun e w'_3 => ∃ x_7 x_8, e = .returned (.tuple #[.int .i64 x_7, x_8]) ∧
            CallsS Tryz.prog 48 #[.pointer (some ⟨n, 0, none⟩), .string ⟨#[10]⟩] w'_3 fun e w'_4 => ∃ x_9 x_10, e = .returned (.tuple #[.int .i64 x_9, x_10]) ∧ I [.int .i64 (IntKind.i64.wrap ((i : Int) + 1))] w'_4 ∧ M [.int .i64 (IntKind.i64.wrap ((i : Int) + 1))] w'_4 < M [.int .i64 (i : Int)] w2)) := by
        intro W5 k5 d3 d4
        have hd4 : W5.heap[n4]? = some (.cells (([s, decI y.v.h, ynT y.v.c].map Value.string).toArray) 9 (0, 0)) := d4
        refine ⟨y.p, y.v.l.length, y.c, cell_at d3 rfl, bsp_intro (fun hb => ?_) (fun hb => ?_)⟩
        · have hb : 0 < y.v.l.length := by simp at hb; omega
          have ew : wdT s y.v = [s, decI y.v.h, ynT y.v.c, rngT y.v.l] := by
            unfold wdT
            cases hv : y.v.l with
            | nil => rw [hv] at hb; cases hb
            | cons a t => rfl
          refine ⟨y.p, y.v.l.length, y.c, cell_at d3 rfl, ⟨(artext_any y.v.l y.p y.c W5 ((h.rowOf hy).k0 (k2.trans k5)) hok.iv hok.hi hvl (hT.k0 (k2.trans k5))).mono fun e w6 ⟨he, k6⟩ => ⟨_, he, fun n7 w7 h7 => ?_⟩⟩⟩
          have k57 : K0 W5 w7 := k6.trans (h7.kp _)
          have ho7 := own_lit (B := w2.heap.size) (zs := [s, decI y.v.h, ynT y.v.c].map Value.string) (k57.blk hd4 (fun h => h)) g4 (by simp)
          refine ⟨w2.heap.size, _, [.string (rngT y.v.l)], ho7, rfl, src_block h7.block (by intro u hu; simp at hu; subst hu; rfl), by omega, by omega, (k5.trans k57).size, fun p' c' w8 ho8 hg8 _ => ?_⟩
          have k28 : K0 w2 w8 := (k5.trans k57).fresh (kp_grown hg8) (fun j hj e => by have := own_ge ho7 e; omega)
          refine tail [s, decI y.v.h, ynT y.v.c, rngT y.v.l] p' 4 c' rfl (strP_own (l := [s, decI y.v.h, ynT y.v.c, rngT y.v.l]) ho8 (by simp)) ew.symm (own_le ho8) k28
        · have hb : y.v.l = [] := List.eq_nil_of_length_eq_zero (by simp at hb; simp [hb])
          have ew : wdT s y.v = [s, decI y.v.h, ynT y.v.c] := by unfold wdT; rw [hb]
          exact tail [s, decI y.v.h, ynT y.v.c] (some ⟨n4, 0, none⟩) 3 3 rfl (strP_lit hd4) ew.symm (Nat.le_refl _) k5
      refine ⟨y.v.c, cell_at c35 rfl, bsp_intro (fun hb => ?_) (fun hb => ?_)⟩
      · refine ⟨⟨by omega, by omega⟩, cell_wr c45 (by show 2 < 3; omega), fun w6 hp6 => ?_⟩
        have k26 : K0 w2 w6 := put_k0 k25 hp6 g4
        refine rest k26 (hp6.kp.blk c35 (fun e => by omega)) ?_
        rw [hp6.block c45]
        have : ynT y.v.c = ⟨#[110]⟩ := by rw [hb]; rfl
        rw [this]; rfl
      · refine rest k25 c35 ?_
        rw [c45]
        have : ynT y.v.c = ⟨#[121]⟩ := by rw [hb]; rfl
        rw [this]
  · have hi2 : i = A.length := by simp at hge; omega
    subst hi2
    rw [List.take_length] at hB2
    exact ⟨hB2.text.mono fun e w5 ⟨he, k5⟩ => ⟨_, he, rfl, k2.fresh k5 (fun j hj e => by omega)⟩⟩
end

end Go.Proofs.YtgmmoghagpmpfaaGreatDoor

/- Chapter 27: the contracts of strings.Split, strings.Cut at a byte, of parseRanges. Texts are not too long; the library's variable MaxLen holds a number. -/
namespace Go.Proofs.YtgmmoghagpmpfaaGreatDoor
open Go.RowKit Go.Maps Go.Sort

theorem k0_drewN (w : World) (n : Nat) : K0 w (w.drewN n) := ⟨rfl, rfl, rfl, Nat.le_refl _, fun _ _ _ => rfl⟩
theorem split27_any (d : UInt8) (s : ByteArray) (w : World) (hs : s.size ≤ 1073741824) (hG : GW w) :
    Calls Tryz.prog 68 #[.string s, .string ⟨#[d]⟩] w fun e w' => (∃ (p : Option Addr), e = .returned (.slice p (partsC d s).length (partsC d s).length) ∧ StrP w' p (partsC d s)) ∧ K0 w w' := by
  obtain ⟨mm, hG1⟩ := hG
  refine (Tryz.strings_Split s ⟨#[d]⟩ mm w (by omega) hG1 (by show 1 ≤ 1; omega)).mono fun e w2 ⟨he, hw2⟩ => ?_
  have hlen : (partsC d s).length = Lib.countB s ⟨#[d]⟩ + 1 := Lib.splitB_all ⟨#[d]⟩ (by show 0 < 1; omega) 0 _ s rfl
  have hn2 : NewB w (.cells ((partsC d s).map .string).toArray 9) w.heap.size w2 := ⟨rfl, hw2⟩
  rw [← hlen] at he
  exact ⟨⟨_, he, strP_lit hn2.block⟩, hn2.kp _⟩
theorem cut27_any (d : UInt8) (s : ByteArray) (w : World) (hs : s.size ≤ 1073741824) (hG : GW w) :
    Calls Tryz.prog 42 #[.string s, .string ⟨#[d]⟩] w fun e w' => e = .returned (.tuple #[.string (if findC d s < s.size then s.extract 0 (findC d s) else s), .string (if findC d s < s.size then s.extract (findC d s + 1) s.size else ⟨#[]⟩), .bool (decide (findC d s < s.size))]) ∧ K0 w w' := by
  obtain ⟨mm, hG1⟩ := hG
  refine (Tryz.strings_Cut s ⟨#[d]⟩ mm w (by omega) hG1).mono fun e w2 ⟨he, k, hw⟩ => ⟨?_, by rw [hw]; exact k0_drewN w k⟩
  rw [he]
  have e0 : (⟨#[d]⟩ : ByteArray).data.toList = [d] := rfl
  rw [e0]
  by_cases hi : findC d s < s.size
  · rw [cut_hit (findC_first d s) hi, if_pos hi, if_pos hi, decide_eq_true hi]
  · rw [cut_miss (findC_first d s) hi, if_neg hi, if_neg hi, decide_eq_false hi]
theorem drop_cons27 {α : Type} {l : List α} {i : Nat} {x : α} (h : l[i]? = some x) : l.drop i = x :: l.drop (i + 1) := by
  obtain ⟨h1, h2⟩ := List.getElem?_eq_some_iff.1 h
  rw [List.drop_eq_getElem_cons h1, h2]
theorem ivL_cons (hi : Int) (p : ByteArray) (r : List ByteArray) (n : Int) : ivL hi (p :: r) n = match ivP p hi with | some x => if n ≤ x.a then (ivL hi r (x.b + 2)).map (x :: ·) else none | none => none := rfl
set_option maxHeartbeats 2000000 in
theorem acpranges_any (s : ByteArray) (hi : Int) (w : World) (hs : s.size ≤ 1048576) (h0 : 0 ≤ hi ∧ hi ≤ 2147483646) (hG : GW w) :
    Calls Tryz.prog 70 #[.string s, .int .i64 hi] w fun e w' => (match ivL hi (partsC 44 s) 1 with
      | some l => ∃ p c, e = .returned (.tuple #[.slice p (List.length l) c, .bool true]) ∧ w'.ownsRow w.heap.size 105 2 (.slice p l.length c) l.length (l.flatMap ivC)
      | none => e = .returned (.tuple #[.slice none 0 0, .bool false])) ∧ K0 w w' := by
  refine vc_acpranges s hi w _ ⟨(split27_any 44 s w (by omega) hG).mono fun e w1 ⟨⟨p, he, hS⟩, k1⟩ => ⟨_, _, _, he, .of_k0 k1, ?_⟩⟩
  have hpl := parts_len 44 s
  have hps := parts_size 44 s
  generalize partsC 44 s = L at hS hpl hps ⊢
  refine ⟨fun vs w' => ∃ (i : Nat) (acc : List Iv) (q : Option Addr) (c : Nat) (nx : Int), vs = [.int .i64 (i : Int), .slice q acc.length c, .int .i64 nx] ∧ i ≤ L.length ∧ acc.length ≤ i ∧ 0 ≤ nx ∧ nx ≤ 4294967296 ∧ ivL hi L 1 = (ivL hi (L.drop i) nx).map (acc ++ ·) ∧
      w'.ownsRow w1.heap.size 105 2 (.slice q acc.length c) acc.length (acc.flatMap ivC) ∧ K0 w w' ∧ K0 w1 w',
    fun vs _ => (match vs with | .int _ a :: _ => L.length - a.toNat | _ => 0), ⟨0, [], none, 0, 1, rfl, by omega, by simp, by omega, by omega, by rw [List.drop_zero]; cases ivL hi L 1 <;> rfl, World.ownsRow_nil _ _ _ _, k1, .refl _ _⟩, ?_⟩
  rintro x p1 n1 c1 x1 w2 ⟨i, acc, q, c, nx, hv, hi1, hal, hn0, hn1, hE, ho, k2, kk2⟩
  simp only [List.cons.injEq, Value.int.injEq, Value.slice.injEq, true_and, and_true] at hv
  obtain ⟨rfl, ⟨rfl, rfl, rfl⟩, rfl⟩ := hv
  refine bsp_intro (fun hlt => ?_) (fun hge => ?_)
  · have hlt : i < L.length := by simp at hlt; omega
    obtain ⟨t, tb, tq, ht, hp, hc⟩ := (hS.k0 kk2).get hlt
    have htz := hps t (List.mem_of_getElem? ht)
    rw [drop_cons27 ht, ivL_cons] at hE
    have hG2 := hG.kp k2 (fun h => h)
    rw [Int.toNat_natCast]
    have fail : ∀ {w' : World}, K0 w w' → ivL hi L 1 = none → (match ivL hi L 1 with
      | some l => ∃ p c, Ending.returned (Value.tuple #[.slice none 0 0, .bool false]) = .returned (.tuple #[.slice p (List.length l) c, .bool true]) ∧ w'.ownsRow w.heap.size 105 2 (.slice p l.length c) l.length (l.flatMap ivC)
      | none => Ending.returned (Value.tuple #[.slice none 0 0, .bool false]) = .returned (.tuple #[.slice none 0 0, .bool false])) ∧ K0 w w' := fun k e => by
      rw [e]; exact ⟨rfl, k⟩
    -- an interval is appended
    have app : ∀ {w3 : World} (z : Iv), ivP t hi = some z → x1 ≤ z.a → z.b ≤ 2147483646 → 0 ≤ z.b → K0 w2 w3 →
        ∀ (n : Nat) (W : World), Loc w.heap.size [Blk.mk n 105 [.int .i64 z.a, .int .i64 z.b] 2] w3 W → ∃ (base : Nat) (xs : List Value), W.ownsRow base 105 2 (.slice p1 acc.length c1) acc.length xs ∧ acc.length + 1 ≤ 9223372036854775807 ∧ (acc.length + 1) * 16 ≤ 140737488355328 ∧ base ≤ W.heap.size ∧
          ∀ (p' : Option Addr) (c' : Nat) (w' : World), w'.ownsRow base 105 2 (.slice p' (acc.length + 1) c') (acc.length + 1) (xs ++ [.int .i64 z.a, .int .i64 z.b]) → W.grownBy w' (Value.slice p1 acc.length c1).ownBlock → AppL W p1 acc.length c1 1 p' c' → KeptL [] W w' ∧
          (∃ (j : Nat) (acc' : List Iv) (q : Option Addr) (c : Nat) (nx : Int), [Value.int .i64 (IntKind.i64.wrap ((i : Int) + 1)), .slice p' (acc.length + 1) c', .int .i64 (IntKind.i64.wrap (z.b + 2))] = [.int .i64 (j : Int), .slice q acc'.length c, .int .i64 nx] ∧ j ≤ L.length ∧ acc'.length ≤ j ∧ 0 ≤ nx ∧ nx ≤ 4294967296 ∧ ivL hi L 1 = (ivL hi (L.drop j) nx).map (acc' ++ ·) ∧
            w'.ownsRow w1.heap.size 105 2 (.slice q acc'.length c) acc'.length (acc'.flatMap ivC) ∧ K0 w w' ∧ K0 w1 w') ∧ L.length - (IntKind.i64.wrap ((i : Int) + 1)).toNat < L.length - ((i : Nat) : Int).toNat := by
      intro w3 z hz hza hzb hzb0 k23 n W hW
      rw [hz] at hE
      simp only at hE
      rw [if_pos hza] at hE
      have k3 : K0 w2 W := k23.trans (hW.kk rfl)
      have ho3 := owns_kp ho k3 (fun _ _ h => h)
      refine ⟨w1.heap.size, _, ho3, by omega, by omega, (kk2.trans k3).size, fun p' c' w' ho' hg' _ => ⟨⟨hg'.size, fun _ hm => by cases hm⟩, ⟨i + 1, acc ++ [z], p', c', z.b + 2, ?_, hlt, by simp; omega, by omega, by omega, ?_, ?_, (k2.trans k3).fresh (kp_grown hg') (fun j hj e => by have := own_ge ho3 e; have := k1.size; omega), (kk2.trans k3).fresh (kp_grown hg') (fun j hj e => by have := own_ge ho3 e; omega)⟩, ?_⟩⟩
      · rw [inc64 (by omega), wr64 (by omega) (by omega), List.length_append]; rfl
      · rw [hE]
        cases ivL hi (L.drop (i + 1)) (z.b + 2) with
        | none => rfl
        | some l => simp
      · rw [List.flatMap_append, List.length_append]
        exact ho'
      · rw [inc64 (by omega)]; simp only [Int.toNat_natCast]; omega
    refine nn_is hp ⟨⟨by omega, by omega⟩, t, hc, ⟨(cut27_any 45 t w2 (by omega) hG2).mono fun e w3 ⟨he, k3⟩ => ⟨_, _, _, he, .of_k0 k3, ?_⟩⟩⟩
    by_cases hk : findC 45 t < t.size
    · rw [if_pos hk, if_pos hk, decide_eq_true hk]
      have zl : (t.extract 0 (findC 45 t)).size ≤ 1048576 := by rw [ByteArray.size_extract]; omega
      have zu : (t.extract (findC 45 t + 1) t.size).size ≤ 1048576 := by rw [ByteArray.size_extract]; omega
      have eP : ivP t hi = if (numR (t.extract 0 (findC 45 t)) hi).2 = 0 ∧ (numR (t.extract (findC 45 t + 1) t.size) hi).2 = 0 ∧ (numR (t.extract 0 (findC 45 t)) hi).1 < (numR (t.extract (findC 45 t + 1) t.size) hi).1
        then some ⟨(numR (t.extract 0 (findC 45 t)) hi).1, (numR (t.extract (findC 45 t + 1) t.size) hi).1⟩ else none := by unfold ivP; rw [if_pos hk]
      refine ⟨(anum_any (t.extract 0 (findC 45 t)) hi w3 (by omega) (by omega)).mono fun e w4 ⟨he, k4⟩ => ⟨_, _, he, .of_k0 k4, bsp_intro (fun hb => ?_) (fun hb => bsp_intro (fun _ => ⟨(anum_any (t.extract (findC 45 t + 1) t.size) hi w4 (by omega) (by omega)).mono fun e w5 ⟨he, k5⟩ => ⟨_, _, he, .of_k0 k5, bsp_intro (fun hd => ?_) (fun hd => ?_)⟩⟩) (fun h => by cases h))⟩⟩
      · refine fail ((k2.trans k3).trans k4) ?_
        rw [hE, eP]
        simp only [Bool.or_eq_true, bne_iff_ne, ne_eq, decide_eq_true_eq] at hb
        split
        · rename_i z hz
          split at hz
          · rename_i hh
            cases hz
            rcases hb with hb | hb
            · exact absurd hh.1 hb
            · rw [if_neg (by show ¬ x1 ≤ (numR _ hi).1; omega)]; rfl
          · cases hz
        · rfl
      · refine fail (((k2.trans k3).trans k4).trans k5) ?_
        rw [hE, eP]
        simp only [Bool.or_eq_true, bne_iff_ne, ne_eq, decide_eq_true_eq] at hd
        rw [if_neg (fun hh => by
          rcases hd with hd | hd
          · exact hd hh.2.1
          · omega)]
        rfl
      · simp only [Bool.or_eq_false_iff, bne_eq_false_iff_eq, decide_eq_false_iff_not] at hb hd
        obtain ⟨_, u1, u2, _⟩ := numR_ok hb.1
        obtain ⟨_, v1, v2, _⟩ := numR_ok hd.1
        exact app ⟨(numR (t.extract 0 (findC 45 t)) hi).1, (numR (t.extract (findC 45 t + 1) t.size) hi).1⟩ (by rw [eP, if_pos ⟨hb.1, hd.1, by omega⟩]) (by show x1 ≤ (numR _ hi).1; omega) (by show (numR _ hi).1 ≤ _; omega) v1 ((k3.trans k4).trans k5)
    · rw [if_neg hk, if_neg hk, decide_eq_false hk]
      have eP : ivP t hi = if (numR t hi).2 = 0 then some ⟨(numR t hi).1, (numR t hi).1⟩ else none := by unfold ivP; rw [if_neg hk]
      refine ⟨(anum_any t hi w3 (by omega) (by omega)).mono fun e w4 ⟨he, k4⟩ => ⟨_, _, he, .of_k0 k4, bsp_intro (fun hb => ?_) (fun hb => bsp_intro (fun h => by cases h) (fun _ => ?_))⟩⟩
      · refine fail ((k2.trans k3).trans k4) ?_
        rw [hE, eP]
        simp only [Bool.or_eq_true, bne_iff_ne, ne_eq, decide_eq_true_eq] at hb
        split
        · rename_i z hz
          split at hz
          · rename_i hh
            cases hz
            rcases hb with hb | hb
            · exact absurd hh hb
            · rw [if_neg (by show ¬ x1 ≤ (numR t hi).1; omega)]; rfl
          · cases hz
        · rfl
      · simp only [Bool.or_eq_false_iff, bne_eq_false_iff_eq, decide_eq_false_iff_not] at hb
        obtain ⟨_, u1, u2, _⟩ := numR_ok hb.1
        exact app ⟨(numR t hi).1, (numR t hi).1⟩ (by rw [eP, if_pos hb.1]) (by show x1 ≤ (numR t hi).1; omega) (by show (numR t hi).1 ≤ _; omega) u1 (k3.trans k4)
  · have hi2 : i = L.length := by simp at hge; omega
    subst hi2
    rw [List.drop_length] at hE
    have e2 : ivL hi L 1 = some acc := by rw [hE]; simp [ivL]
    rw [e2]
    exact ⟨⟨p1, c1, rfl, own_base ho k1.size⟩, k2⟩

end Go.Proofs.YtgmmoghagpmpfaaGreatDoor

/- Chapter 27: the contract of Remove. Names are not too long, the number is in range. -/
namespace Go.Proofs.YtgmmoghagpmpfaaGreatDoor
open Go.RowKit Go.Maps Go.Sort

theorem remI_snoc {l : List Iv} {i : Nat} {x : Iv} (h : l[i]? = some x) (n : Int) : remI (l.take (i + 1)) n = remI (l.take i) n ++ (if n < x.a ∨ x.b < n then [x] else keepI x.a (n - 1) ++ keepI (n + 1) x.b) := by
  rw [take_snoc h]
  unfold remI
  rw [List.flatMap_append]
  simp
section
variable {w : World} {B b mb : Nat} {m : TM} {A : TA}
set_option maxHeartbeats 2000000 in
theorem acremove_any (h : Tq w B b mb m A) (s : ByteArray) (hs : s.size ≤ 1073741824) (v : Int) (hv0 : -9223372036854775808 ≤ v ∧ v ≤ 9223372036854775807) :
    Calls Tryz.prog 33 #[.pointer (some ⟨b, 0, none⟩), .agg #[.string s, .int .i64 v]] w fun e w' => e = .returned (.int .i64 (rmA A s v).2) ∧ ∃ m', Ts w w' B b mb m (rmA A s v).1 m' := by
  refine vc_acremove b s v w _ (fun n W hW => ?_)
  have kW : K0 w W := hW.kk rfl
  have cn := hW.cells 0 rfl
  have gn : w.heap.size ≤ n := hW.fresh 0 rfl rfl
  unfold rmA
  cases hx : aget m s with
  | none =>
    refine ⟨(acfindN (h.k0 kW) s hs hx).mono fun e w1 ⟨he, k1⟩ => ⟨_, _, _, _, _, _, he, .of_k0 k1, fun n2 => ?_⟩⟩
    rw [h.getN hx]
    exact bsp_intro (fun _ W2 hW2 => ⟨rfl, m, h.same (hW2.k0 (kW.trans k1))⟩) (fun hb => by simp at hb)
  | some x =>
    refine ⟨(acfindS (h.k0 kW) s hs hx).mono fun e w1 ⟨he, k1⟩ => ⟨_, _, _, _, _, _, he, .of_k0 k1, fun n2 => ?_⟩⟩
    have k01 : K0 w w1 := kW.trans k1
    rw [h.getS hx]
    simp only
    obtain ⟨hiv, h0, hm, hel⟩ := h.ivOf hx
    have hll := h.lenOf hx
    refine bsp_intro (fun hb => by simp at hb) (fun _ W2 hW2 => ?_)
    have k2 : K0 w W2 := hW2.k0 k01
    have kk2 : K0 W W2 := k1.trans (hW2.kk rfl)
    have gn2 : w.heap.size ≤ n2 := Nat.le_trans k01.size (hW2.fresh 0 rfl rfl)
    refine ⟨(ahasg_any x.v.h x.v.c x.v.l x.p x.c v W2 ((h.rowOf hx).k0 k2) (by omega)).mono fun e w3 ⟨he, k3⟩ => ⟨_, he, .of_k0 k3, bsp_intro (fun hb => ?_) (fun hb n3 W3 hW3 => ?_)⟩⟩
    · have hb : hasI x.v.l v = false := by simpa using hb
      rw [hb, if_neg (by simp)]
      exact ⟨rfl, m, h.same (k2.trans k3)⟩
    have hb : hasI x.v.l v = true := by simpa using hb
    rw [if_pos hb]
    have k3' : K0 w w3 := k2.trans k3
    have kW3 : K0 w W3 := hW3.k0 k3'
    have kk3 : K0 W W3 := (kk2.trans k3).trans (hW3.kk rfl)
    have c3 := hW3.cells 0 rfl
    have gn3 : w3.heap.size ≤ n3 := hW3.fresh 0 rfl rfl
    have ln3 := block_lt c3
    have a1 := hW3.apart 0 1 rfl rfl (by decide)
    have a2 := hW3.apart 0 2 rfl rfl (by decide)
    have ln : n < W3.heap.size := Nat.lt_of_lt_of_le (block_lt cn) kk3.size
    have ln2 := block_lt (hW3.cells 1 rfl)
    simp only at ln3 a1 a2 ln2
    refine ⟨fun vs w' => ∃ (i : Nat) (acc : List Iv) (p : Option Addr) (c : Nat), vs = [.int .i64 (i : Int)] ∧ i ≤ x.v.l.length ∧ acc = remI (x.v.l.take i) v ∧ w'.heap[n3]? = some (.cells #[.slice p acc.length c] 92 (0, 0)) ∧ w'.ownsRow W3.heap.size 105 2 (.slice p acc.length c) acc.length (acc.flatMap ivC) ∧ K0 w w' ∧ Kp (fun k => k = n3) W3 w',
      fun vs _ => (match vs with | .int _ a :: _ => x.v.l.length - a.toNat | _ => 0), ⟨0, [], none, 0, rfl, by omega, rfl, c3, World.ownsRow_nil _ _ _ _, kW3, .refl _ _⟩, ?_⟩
    rintro q w4 ⟨i, acc, p, c, hv, hi, hacc, c4, ho4, k4, kk4⟩ hL4
    simp only [List.cons.injEq, Value.int.injEq, true_and, and_true] at hv
    subst hv
    have hal : acc.length ≤ 2 * i := by
      have := remI_len (x.v.l.take i) v
      rw [← hacc, List.length_take] at this
      omega
    refine bsp_intro (fun hlt => ?_) (fun hge => ?_)
    · have hlt : i < x.v.l.length := by simp at hlt; omega
      obtain ⟨z, zb, zo, hz, hzp, hzat⟩ := ((h.rowOf hx).k0 k4).get hlt
      have hzz := hiv.mem z (List.mem_of_getElem? hz)
      have hsn := remI_snoc hz v
      rw [← hacc] at hsn
      rw [Int.toNat_natCast]
      have hs3 : W3.heap.size ≤ w4.heap.size := kk4.size
      -- a call of the closure
      have keep : ∀ {W5 : World} {acc' : List Iv} {p' : Option Addr} {c' n4 : Nat} (u1 u2 : Int), W5.heap[n3]? = some (.cells #[.slice p' acc'.length c'] 92 (0, 0)) → W5.ownsRow W3.heap.size 105 2 (.slice p' acc'.length c') acc'.length (acc'.flatMap ivC) → K0 w W5 → Kp (fun k => k = n3) W3 W5 → acc'.length ≤ 4294967296 → n4 < W5.heap.size → w4.heap.size ≤ n4 → (∀ k, (Value.slice p' acc'.length c').ownBlock = some k → k ≠ n4) →
          Calls Tryz.prog 65 #[.int .i64 u1, .int .i64 u2, .pointer (some ⟨n3, 0, none⟩)] W5 fun e w6 => e = .returned (.tuple #[]) ∧ KeptL [n2, n, n4] W5 w6 ∧ ∃ p'' c'', w6.heap[n3]? = some (.cells #[.slice p'' (acc' ++ keepI u1 u2).length c''] 92 (0, 0)) ∧ w6.ownsRow W3.heap.size 105 2 (.slice p'' (acc' ++ keepI u1 u2).length c'') (acc' ++ keepI u1 u2).length ((acc' ++ keepI u1 u2).flatMap ivC) ∧ K0 w w6 ∧ Kp (fun k => k = n3) W3 w6 ∧ W5.heap.size ≤ w6.heap.size ∧ ∀ k, (Value.slice p'' (acc' ++ keepI u1 u2).length c'').ownBlock = some k → k ≠ n4 := by
        intro W5 acc' p' c' n4 u1 u2 c5 ho5 k5 kk5 hal5 hn4 hn4w hne
        refine (akeep_any u1 u2 n3 acc' p' c' W3.heap.size W5 c5 ho5 ln3 kk5.size hal5).mono fun e w6 ⟨he, ⟨p'', c'', c6, ho6, hf6⟩, k6⟩ => ⟨he, .of_kp k6 (fun k hk e => ?_), p'', c'', c6, ho6, k5.fresh k6 (fun j hj e => ?_), kk5.fresh k6 (fun j hj e => ?_), k6.size, fun k hk e => ?_⟩
        · simp only [List.mem_cons, List.not_mem_nil, or_false] at hk
          rcases hk with rfl | rfl | rfl
          · rcases e with e | e
            · exact a1 e.symm
            · have := own_ge ho5 e; omega
          · rcases e with e | e
            · exact a2 e.symm
            · have := own_ge ho5 e; omega
          · rcases e with e | e
            · omega
            · exact hne _ e rfl
        · have hw3 := kW3.size
          have hk3 := k3'.size
          rcases e with e | e
          · omega
          · have := own_ge ho5 e; omega
        · rcases e with e | e
          · exact e
          · have := own_ge ho5 e; omega
        · subst e
          rcases hf6 k hk with e2 | e2
          · exact hne k e2 rfl
          · omega
      refine nn_is hzp ⟨⟨by omega, by omega⟩, z.a, z.b, hzat, fun n4 => ⟨v, gimp_intro fun _ W5 hW5 => ?_, z.b, gimp_intro fun _ W5 hW5 => cell_at (hW5.cells 2 rfl) rfl, bsp_intro (fun hc W5 hW5 => ?_) (fun hc W5 hW5 => ?_)⟩⟩
      · exact cell_at ((hW5.kk rfl : K0 w4 W5).blk (hL4.cells 1 rfl) (fun h => h)) rfl
      · have hc : v < z.a ∨ z.b < v := by simpa using hc
        have k45 : K0 w4 W5 := hW5.kk rfl
        have g4 : w4.heap.size ≤ n4 := hW5.fresh 2 rfl rfl
        have l4 := block_lt (hW5.cells 2 rfl)
        simp only at l4
        refine ⟨65, #[], #[.pointer (some ⟨n3, 0, none⟩)], rfl, by kernel_rfl, ⟨(keep z.a z.b (k45.blk c4 (fun h => h)) (owns_kp ho4 k45 (fun _ _ h => h)) (k4.trans k45) (kk4.trans (k45.mono fun _ _ e => e.elim)) (by omega) l4 g4 (fun k hk e => by have := own_lt ho4 hk; omega)).mono fun e w6 ⟨he, hK, p'', c'', c6, ho6, k6, kk6, _, _⟩ => ⟨he, hK, ?_, ?_⟩⟩⟩
        · rw [inc64 (by omega)]
          have ek : keepI z.a z.b = [z] := by unfold keepI; rw [if_pos hzz.2.1]
          rw [ek] at c6 ho6
          exact ⟨i + 1, acc ++ [z], p'', c'', rfl, by omega, by rw [hsn, if_pos hc], c6, ho6, k6, kk6⟩
        · rw [inc64 (by omega)]; simp only [Int.toNat_natCast]; omega
      · have hc : ¬ (v < z.a ∨ z.b < v) := by
          intro e
          rcases e with e | e
          · simp [e] at hc
          · simp at hc; omega
        have k45 : K0 w4 W5 := hW5.kk rfl
        have g4 : w4.heap.size ≤ n4 := hW5.fresh 2 rfl rfl
        have l4 := block_lt (hW5.cells 2 rfl)
        simp only at l4
        rw [wr64 (x := v - 1) (by omega) (by omega), wr64 (x := v + 1) (by omega) (by omega)]
        refine ⟨65, #[], #[.pointer (some ⟨n3, 0, none⟩)], rfl, by kernel_rfl, ⟨(keep z.a (v - 1) (k45.blk c4 (fun h => h)) (owns_kp ho4 k45 (fun _ _ h => h)) (k4.trans k45) (kk4.trans (k45.mono fun _ _ e => e.elim)) (by omega) l4 g4 (fun k hk e => by have := own_lt ho4 hk; omega)).mono fun e w6 ⟨he, hK, p'', c'', c6, ho6, k6, kk6, s6, n6⟩ => ⟨he, hK, ?_⟩⟩⟩
        have hk1 : (keepI z.a (v - 1)).length ≤ 1 := by unfold keepI; split <;> simp
        refine ⟨65, #[], #[.pointer (some ⟨n3, 0, none⟩)], rfl, by kernel_rfl, ⟨(keep (v + 1) z.b c6 ho6 k6 kk6 (by rw [List.length_append]; omega) (by omega) g4 n6).mono fun e w7 ⟨he, hK, p'', c'', c7, ho7, k7, kk7, s7, n7⟩ => ⟨he, hK, ?_, ?_⟩⟩⟩
        · rw [inc64 (by omega)]
          exact ⟨i + 1, _, p'', c'', rfl, by omega, by rw [hsn, if_neg hc, List.append_assoc], c7, ho7, k7, kk7⟩
        · rw [inc64 (by omega)]; simp only [Int.toNat_natCast]; omega
    · have hi2 : i = x.v.l.length := by simp at hge; omega
      subst hi2
      rw [List.take_length] at hacc
      refine ⟨p, acc.length, c, cell_at c4 rfl, some mb, fun W5 hW5 => (h.k0 (hW5.k0 k4)).z.cM, fun W5 hW5 => ?_⟩
      have kW5 : K0 w W5 := hW5.k0 k4
      have ho5 : W5.ownsRow W3.heap.size 105 2 (.slice p acc.length c) acc.length (acc.flatMap ivC) := owns_kp ho4 hW5.kp (fun k hk ⟨y, hy, e1, e2⟩ => by
        have := own_ge ho4 hk
        simp only [List.mem_cons, List.not_mem_nil, or_false] at hy
        rcases hy with rfl | rfl
        · simp only at e2; omega
        · simp only at e2; omega)
      have hBW : B ≤ W3.heap.size := by
        have := h.z.gb
        have := block_lt h.z.st
        have := kW3.size
        omega
      have hown : Gx.own W5 B ⟨⟨x.v.h, x.v.c, acc⟩, p, c⟩ := own_base ho5 hBW
      obtain ⟨w6, hu, hT, k6⟩ := Ts.put (w := W5) h (x := ⟨⟨x.v.h, x.v.c, acc⟩, p, c⟩) hx (kW5.mono fun _ _ e => e.elim) hs hown (fun k (hk : (Value.slice p acc.length c).ownBlock = some k) => .inr (by have := own_ge ho5 hk; have := kW3.size; omega)) (h.wf.set (h.getS hx) (v := ⟨x.v.h, x.v.c, acc⟩) ⟨h0, hm⟩ (by rw [hacc]; exact remI_ok hiv))
      refine ⟨w6, hu, h.z.keptL k6 (fun k hk => ?_), rfl, aset m s ⟨⟨x.v.h, x.v.c, acc⟩, p, c⟩, ?_⟩
      · simp only [List.mem_cons, List.not_mem_nil, or_false] at hk
        rcases hk with rfl | rfl
        · exact gn2
        · exact gn
      · rw [← hacc]; exact hT
end

end Go.Proofs.YtgmmoghagpmpfaaGreatDoor

/- The formulas of functions by the symbolic evaluator, and that each gives the call's contract. Written by a program (gen.py). No condition. -/
namespace Go.Proofs.YtgmmoghagpmpfaaGreatDoor
set_option maxRecDepth 100000
set_option linter.unusedVariables false

def VC_acassign (b : Nat) (p : Option Addr) (n : Nat) (c : Nat) (w : World) (R : Ending → World → Prop) : Prop :=
 bsp ((some (Addr.mk b 0 none)).isNone || (↑n : Int) == 0)
 (R (Ending.returned (Value.tuple #[Value.slice none 0 0, Value.int IntKind.i64 1])) w)
 (∃ (I : List Value → World → Prop),
 ∃ (m : List Value → World → Nat),
 I [Value.int IntKind.i64 0] w ∧
 ∀ (x : Int) (w' : World),
 I [Value.int IntKind.i64 x] w' →
 bsp (decide (x < (↑n : Int)))
 (nn true p fun (b o : Nat) =>
 (0 ≤ x ∧ x < (↑n : Int)) ∧
 ∃ (x_1 : ByteArray),
 w'.cell? (Addr.mk b (o + x.toNat) none) = some (Value.string x_1) ∧
 (0 ≤ x ∧ x ≤ (↑c : Int)) ∧
 CallsS Tryz.prog 60 #[Value.slice p x.toNat c, Value.string x_1] w' fun (e : Ending) (w'_1 : World) =>
 ∃ (x_2 : Bool),
 e = Ending.returned (Value.bool x_2) ∧
 KeptL [] w' w'_1 ∧
 bsp x_2 (R (Ending.returned (Value.tuple #[Value.slice none 0 0, Value.int IntKind.i64 7])) w'_1)
 (I [Value.int IntKind.i64 (IntKind.i64.wrap (x + 1))] w'_1 ∧
 m [Value.int IntKind.i64 (IntKind.i64.wrap (x + 1))] w'_1 < m [Value.int IntKind.i64 x] w'))
 (∃ (I : List Value → World → Prop),
 ∃ (m : List Value → World → Nat),
 I [Value.int IntKind.i64 0, Value.int IntKind.i64 0] w' ∧
 ∀ (x x_1 : Int) (w' : World),
 I [Value.int IntKind.i64 x, Value.int IntKind.i64 x_1] w' →
 bsp (decide (x < (↑n : Int)))
 (nn true p fun (b_1 o : Nat) =>
 (0 ≤ x ∧ x < (↑n : Int)) ∧
 ∃ (x_2 : ByteArray),
 w'.cell? (Addr.mk b_1 (o + x.toNat) none) = some (Value.string x_2) ∧
 ∃ (x_3 : Option Nat),
 w'.cell? (Addr.mk b 0 none) = some (Value.map x_3) ∧
 ∃ (x_4 : Int),
 ∃ (x_5 : Bool),
 ∃ (p : Option Addr),
 ∃ (n : Nat),
 ∃ (c : Nat),
 ∃ (b : Bool),
 LookP Tryz.prog 97 (Value.map x_3) (Value.string x_2) true
 (Value.tuple
 #[Value.agg #[Value.int IntKind.i64 x_4, Value.bool x_5, Value.slice p n c], Value.bool b])
 w' ∧
 ∀ (n_1 : Nat),
 bsp (!b)
 (∀ (W : World),
 Loc w.heap.size
 [Blk.mk n_1 94 [Value.int IntKind.i64 x_4, Value.bool x_5, Value.slice p n c] (wrM 2)] w'
 W →
 R (Ending.returned (Value.tuple #[Value.slice none 0 0, Value.int IntKind.i64 8])) W)
 (bsp x_5
 (∀ (W : World),
 Loc w.heap.size
 [Blk.mk n_1 94 [Value.int IntKind.i64 x_4, Value.bool x_5, Value.slice p n c] (wrM 2)]
 w' W →
 R (Ending.returned (Value.tuple #[Value.slice none 0 0, Value.int IntKind.i64 10])) W)
 (bsp (decide (x_4 ≥ 2147483646))
 (∀ (W : World),
 Loc w.heap.size
 [Blk.mk n_1 94 [Value.int IntKind.i64 x_4, Value.bool x_5, Value.slice p n c] (wrM 2)]
 w' W →
 R (Ending.returned (Value.tuple #[Value.slice none 0 0, Value.int IntKind.i64 9])) W)
 (∀ (W : World),
 Loc w.heap.size
 [Blk.mk n_1 94 [Value.int IntKind.i64 x_4, Value.bool x_5, Value.slice p n c] (wrM 2)]
 w' W →
 I [Value.int IntKind.i64 (IntKind.i64.wrap (x + 1)), Value.int IntKind.i64 x_1] W ∧
 m [Value.int IntKind.i64 (IntKind.i64.wrap (x + 1)), Value.int IntKind.i64 x_1] W <
 m [Value.int IntKind.i64 x, Value.int IntKind.i64 x_1] w'))))
 (bsp (x_1 != 0) (R (Ending.returned (Value.tuple #[Value.slice none 0 0, Value.int IntKind.i64 x_1])) w')
 (∃ (I : List Value → World → Prop),
 ∃ (m : List Value → World → Nat),
 I [Value.int IntKind.i64 0, Value.slice none 0 0] w' ∧
 ∀ (x : Int) (p_1 : Option Addr) (n_1 c : Nat) (w' : World),
 I [Value.int IntKind.i64 x, Value.slice p_1 n_1 c] w' →
 bsp (decide (x < (↑n : Int)))
 (nn true p fun (b_1 o : Nat) =>
 (0 ≤ x ∧ x < (↑n : Int)) ∧
 ∃ (x_2 : ByteArray),
 w'.cell? (Addr.mk b_1 (o + x.toNat) none) = some (Value.string x_2) ∧
 ∃ (x_3 : Option Nat),
 w'.cell? (Addr.mk b 0 none) = some (Value.map x_3) ∧
 ∃ (x_4 : Int),
 ∃ (x_5 : Bool),
 ∃ (p : Option Addr),
 ∃ (n : Nat),
 ∃ (c_1 : Nat),
 LookP Tryz.prog 97 (Value.map x_3) (Value.string x_2) false
 (Value.agg #[Value.int IntKind.i64 x_4, Value.bool x_5, Value.slice p n c_1]) w' ∧
 ∀ (n_2 : Nat) (W : World),
 Loc w.heap.size
 [Blk.mk n_2 94
 [Value.int IntKind.i64 (IntKind.i64.wrap (x_4 + 1)), Value.bool x_5,
 Value.slice p n c_1]
 (wrM (wrM 2))]
 w' W →
 CallsS Tryz.prog 61
 #[Value.slice p n c_1, Value.int IntKind.i64 (IntKind.i64.wrap (x_4 + 1))] W
 fun (e : Ending) (w'_1 : World) =>
 ∃ (p : Option Addr),
 ∃ (n : Nat),
 ∃ (c_2 : Nat),
 e = Ending.returned (Value.slice p n c_2) ∧
 KeptL [n_2] W w'_1 ∧
 ∃ (x_6 : Option Nat),
 (∀ (W : World),
 Loc w.heap.size
 [Blk.mk n_2 94
 [Value.int IntKind.i64 (IntKind.i64.wrap (x_4 + 1)), Value.bool x_5,
 Value.slice p n c_2]
 (wrM 0)]
 w'_1 W →
 W.cell? (Addr.mk b 0 none) = some (Value.map x_6)) ∧
 ∀ (W : World),
 Loc w.heap.size
 [Blk.mk n_2 94
 [Value.int IntKind.i64 (IntKind.i64.wrap (x_4 + 1)), Value.bool x_5,
 Value.slice p n c_2]
 (wrM 0)]
 w'_1 W →
 ∃ (w1 : World),
 UpdP Tryz.prog 97 (Value.map x_6) (Value.string x_2)
 (Value.agg
 #[Value.int IntKind.i64 (IntKind.i64.wrap (x_4 + 1)), Value.bool x_5,
 Value.slice p n c_2])
 W w1 ∧
 KeptL [n_2] W w1 ∧
 ∀ (n_3 : Nat) (W : World),
 Loc w.heap.size
 [Blk.mk n_3 64
 [Value.string x_2,
 Value.int IntKind.i64 (IntKind.i64.wrap (x_4 + 1))]
 2,
 Blk.mk n_2 94
 [Value.int IntKind.i64 (IntKind.i64.wrap (x_4 + 1)), Value.bool x_5,
 Value.slice p n c_2]
 0]
 w1 W →
 ∃ (base : Nat),
 ∃ (xs : List Value),
 W.ownsRow base 64 2 (Value.slice p_1 n_1 c) n_1 xs ∧
 n_1 + 1 ≤ 9223372036854775807 ∧
 (n_1 + 1) * 24 ≤ 140737488355328 ∧
 base ≤ W.heap.size ∧
 ∀ (p' : Option Addr) (c' : Nat) (w'_2 : World),
 w'_2.ownsRow base 64 2 (Value.slice p' (n_1 + 1) c') (n_1 + 1)
 (xs ++
 [Value.string x_2,
 Value.int IntKind.i64 (IntKind.i64.wrap (x_4 + 1))]) →
 W.grownBy w'_2 (Value.slice p_1 n_1 c).ownBlock →
 AppL W p_1 n_1 c 1 p' c' →
 KeptL [n_2] W w'_2 ∧
 I
 [Value.int IntKind.i64 (IntKind.i64.wrap (x + 1)),
 Value.slice p' (n_1 + 1) c']
 w'_2 ∧
 m
 [Value.int IntKind.i64 (IntKind.i64.wrap (x + 1)),
 Value.slice p' (n_1 + 1) c']
 w'_2 <
 m [Value.int IntKind.i64 x, Value.slice p_1 n_1 c] w')
 (R (Ending.returned (Value.tuple #[Value.slice p_1 n_1 c, Value.int IntKind.i64 0])) w')))))
theorem vc_acassign (b : Nat) (p : Option Addr) (n : Nat) (c : Nat) (w : World) (R : Ending → World → Prop) (h : VC_acassign b p n c w R) : Calls Tryz.prog 27 ([Value.pointer
    (some { block := b, off := 0 }),
  Value.slice p n c] : List Value).toArray w R := by
  have e : execR2 { P := Tryz.prog, loops := [(4, [(26, Ck.int IntKind.i64)]), (11, [(39, Ck.int IntKind.i64), (8, Ck.int IntKind.i64)]), (25, [(68, Ck.int IntKind.i64), (13, Ck.slice)])], pur := pur1, tails := [(30, 6)], joins := [], boxes := [] } Tryz.f27.results.toList R (Tryz.f27.body.getD .skip) (initF [Value.pointer
    (some { block := b, off := 0 }),
  Value.slice p n
    c] (Tryz.f27.ntmps - ([Value.pointer (some { block := b, off := 0 }),
  Value.slice p n c] : List Value).length)) w = VC_acassign b p n c w R := by kernel_rfl
  have hb : Tryz.f27.body = some (Tryz.f27.body.getD .skip) := by kernel_rfl
  exact calls_of_exec2' (P := Tryz.prog) (fn := Tryz.f27) (c := Tryz.f27.body.getD .skip) (args := [Value.pointer
    (some { block := b, off := 0 }),
  Value.slice p n c]) (w := w) (R := R) pur1_ok Tryz.func27 hb e h

end Go.Proofs.YtgmmoghagpmpfaaGreatDoor
