/- The formulas of functions by the symbolic evaluator, and that each gives the call's contract. Written by a program (gen.py). No condition. -/
import Derived.Test.YtgmmoghagpmpfaaGreatDoorProg
import Derived.Test.YtgmmoghagpmpfaaGreatDoorZ02
import Derived.Test.YtgmmoghagpmpfaaGreatDoorZ04
import Derived.KernelRfl
import Derived.Test.YtgmmoghagpmpfaaGreatDoorZ11
import Derived.Test.YtgmmoghagpmpfaaGreatDoorZ08
import Derived.Test.YtgmmoghagpmpfaaGreatDoorZ10
namespace Go.Proofs.YtgmmoghagpmpfaaGreatDoor
set_option maxRecDepth 100000
set_option linter.unusedVariables false

def VC_acprint1 (b : Nat) (w : World) (R : Ending → World → Prop) : Prop :=
 ∀ (n : Nat) (w1 : World),
 NewB w (Obj.cells #[Value.pointer none, Value.slice none 0 0] 109) n w1 →
 CallsS Tryz.prog 18 #[Value.pointer (some (Addr.mk b 0 none))] w1 fun (e : Ending) (w' : World) =>
 ∃ (p : Option Addr),
 ∃ (n_1 : Nat),
 ∃ (c : Nat),
 e = Ending.returned (Value.slice p n_1 c) ∧
 ∃ (I : List Value → World → Prop),
 ∃ (m : List Value → World → Nat),
 I [Value.int IntKind.i64 0] w' ∧
 ∀ (x : Int) (w' : World),
 I [Value.int IntKind.i64 x] w' →
 bsp (decide (x < (↑n_1 : Int)))
 (nn true p fun (b_1 o : Nat) =>
 (0 ≤ x ∧ x < (↑n_1 : Int)) ∧
 ∃ (x_1 : ByteArray),
 w'.cell? (Addr.mk b_1 (o + x.toNat) none) = some (Value.string x_1) ∧
 ∃ (x_2 : Option Nat),
 w'.cell? (Addr.mk b 0 none) = some (Value.map x_2) ∧
 ∃ (x_3 : Int),
 ∃ (x_4 : Bool),
 ∃ (p : Option Addr),
 ∃ (n_2 : Nat),
 ∃ (c : Nat),
 LookP Tryz.prog 97 (Value.map x_2) (Value.string x_1) false
 (Value.agg #[Value.int IntKind.i64 x_3, Value.bool x_4, Value.slice p n_2 c]) w' ∧
 ∀ (n_3 : Nat) (w1 : World),
 NewB w' (Obj.cells #[Value.int IntKind.i64 0, Value.bool false, Value.slice none 0 0] 94) n_3
 w1 →
 WrL w1 n_3 0 3 ∧
 ∀ (w1_1 : World),
 PutB w1 n_3 0 [Value.int IntKind.i64 x_3, Value.bool x_4, Value.slice p n_2 c] w1_1 →
 ∃ (x_5 : Int),
 w1_1.cell? (Addr.mk n_3 0 none) = some (Value.int IntKind.i64 x_5) ∧
 CallsS Tryz.prog 46 #[Value.int IntKind.i64 x_5] w1_1 fun (e : Ending) (w'_1 : World) =>
 ∃ (x_6 : ByteArray),
 e = Ending.returned (Value.string x_6) ∧
 ∀ (n_4 : Nat) (w1 : World),
 NewB w'_1
 (Obj.cells
 #[Value.string x_1, Value.string x_6, Value.string (ByteArray.mk #[121])] 9)
 n_4 w1 →
 ∃ (x_7 : Bool),
 w1.cell? (Addr.mk n_3 (0 + 1) none) = some (Value.bool x_7) ∧
 bsp x_7
 (((0 : Int) ≤ 2 ∧ 2 < (↑3 : Int)) ∧
 ((∃ (u : Value), w1.cell? (Addr.mk n_4 2 none) = some u) ∧
 w1.frozen? (Addr.mk n_4 2 none) = false) ∧
 ∀ (w1_2 : World),
 PutB w1 n_4 2 [Value.string (ByteArray.mk #[110])] w1_2 →
 ∃ (p : Option Addr),
 ∃ (n_5 : Nat),
 ∃ (c : Nat),
 w1_2.cell? (Addr.mk n_3 (0 + 2) none) = some (Value.slice p n_5 c) ∧
 bsp (decide ((↑n_5 : Int) > 0))
 (∃ (p : Option Addr),
 ∃ (n_6 : Nat),
 ∃ (c : Nat),
 w1_2.cell? (Addr.mk n_3 (0 + 2) none) = some (Value.slice p n_6 c) ∧
 CallsS Tryz.prog 47 #[Value.slice p n_6 c] w1_2
 fun (e : Ending) (w'_2 : World) =>
 ∃ (x_8 : ByteArray),
 e = Ending.returned (Value.string x_8) ∧
 ∀ (n_7 : Nat) (w1 : World),
 NewB w'_2 (Obj.cells #[Value.string x_8] 9) n_7 w1 →
 ∃ (base : Nat),
 ∃ (xs : List Value),
 ∃ (news : List Value),
 w1.ownsRow base 9 1
 (Value.slice (some (Addr.mk n_4 0 none)) 3 3) 3 xs ∧
 news.length = 1 ∧
 SrcP w1 (some (Addr.mk n_7 0 none)) news ∧
 (4 : Nat) ≤ 9223372036854775807 ∧
 (64 : Nat) ≤ 140737488355328 ∧
 base ≤ w1.heap.size ∧
 ∀ (p' : Option Addr) (c' : Nat) (w'_3 : World),
 w'_3.ownsRow base 9 1 (Value.slice p' 4 c') 4
 (xs ++ news) →
 w1.grownBy w'_3
 (Value.slice (some (Addr.mk n_4 0 none)) 3
 3).ownBlock →
 AppL w1 (some (Addr.mk n_4 0 none)) 3 3 1 p' c' →
 CallsS Tryz.prog 49
 #[Value.slice p' 4 c',
 Value.string (ByteArray.mk #[32])]
 w'_3 fun (e : Ending) (w'_4 : World) =>
 ∃ (x_9 : ByteArray),
 e = Ending.returned (Value.string x_9) ∧
 CallsS Tryz.prog 48
 #[Value.pointer (some (Addr.mk n 0 none)),
 Value.string x_9]
 w'_4 fun (e : Ending) (w'_5 : World) =>
 ∃ (x_10 : Int),
 ∃ (x_11 : Value),
 e =
 Ending.returned
 (Value.tuple
 #[Value.int IntKind.i64 x_10, x_11]) ∧
 CallsS Tryz.prog 48
 #[Value.pointer
 (some (Addr.mk n 0 none)),
 Value.string (ByteArray.mk #[10])]
 w'_5 fun (e : Ending) (w'_6 : World) =>
 ∃ (x_12 : Int),
 ∃ (x_13 : Value),
 e =
 Ending.returned
 (Value.tuple
 #[Value.int IntKind.i64 x_12,
 x_13]) ∧
 I
 [Value.int IntKind.i64
 (IntKind.i64.wrap (x + 1))]
 w'_6 ∧
 m
 [Value.int IntKind.i64
 (IntKind.i64.wrap (x + 1))]
 w'_6 <
 m [Value.int IntKind.i64 x] w')
 (CallsS Tryz.prog 49
 #[Value.slice (some (Addr.mk n_4 0 none)) 3 3,
 Value.string (ByteArray.mk #[32])]
 w1_2 fun (e : Ending) (w'_2 : World) =>
 ∃ (x_8 : ByteArray),
 e = Ending.returned (Value.string x_8) ∧
 CallsS Tryz.prog 48
 #[Value.pointer (some (Addr.mk n 0 none)), Value.string x_8] w'_2
 fun (e : Ending) (w'_3 : World) =>
 ∃ (x_9 : Int),
 ∃ (x_10 : Value),
 e =
 Ending.returned
 (Value.tuple #[Value.int IntKind.i64 x_9, x_10]) ∧
 CallsS Tryz.prog 48
 #[Value.pointer (some (Addr.mk n 0 none)),
 Value.string (ByteArray.mk #[10])]
 w'_3 fun (e : Ending) (w'_4 : World) =>
 ∃ (x_11 : Int),
 ∃ (x_12 : Value),
 e =
 Ending.returned
 (Value.tuple #[Value.int IntKind.i64 x_11, x_12]) ∧
 I [Value.int IntKind.i64 (IntKind.i64.wrap (x + 1))] w'_4 ∧
 m [Value.int IntKind.i64 (IntKind.i64.wrap (x + 1))] w'_4 <
 m [Value.int IntKind.i64 x] w'))
 (∃ (p : Option Addr),
 ∃ (n_5 : Nat),
 ∃ (c : Nat),
 w1.cell? (Addr.mk n_3 (0 + 2) none) = some (Value.slice p n_5 c) ∧
 bsp (decide ((↑n_5 : Int) > 0))
 (∃ (p : Option Addr),
 ∃ (n_6 : Nat),
 ∃ (c : Nat),
 w1.cell? (Addr.mk n_3 (0 + 2) none) = some (Value.slice p n_6 c) ∧
 CallsS Tryz.prog 47 #[Value.slice p n_6 c] w1
 fun (e : Ending) (w'_2 : World) =>
 ∃ (x_8 : ByteArray),
 e = Ending.returned (Value.string x_8) ∧
 ∀ (n_7 : Nat) (w1 : World),
 NewB w'_2 (Obj.cells #[Value.string x_8] 9) n_7 w1 →
 ∃ (base : Nat),
 ∃ (xs : List Value),
 ∃ (news : List Value),
 w1.ownsRow base 9 1
 (Value.slice (some (Addr.mk n_4 0 none)) 3 3) 3 xs ∧
 news.length = 1 ∧
 SrcP w1 (some (Addr.mk n_7 0 none)) news ∧
 (4 : Nat) ≤ 9223372036854775807 ∧
 (64 : Nat) ≤ 140737488355328 ∧
 base ≤ w1.heap.size ∧
 ∀ (p' : Option Addr) (c' : Nat) (w'_3 : World),
 w'_3.ownsRow base 9 1 (Value.slice p' 4 c') 4
 (xs ++ news) →
 w1.grownBy w'_3
 (Value.slice (some (Addr.mk n_4 0 none)) 3
 3).ownBlock →
 AppL w1 (some (Addr.mk n_4 0 none)) 3 3 1 p' c' →
 CallsS Tryz.prog 49
 #[Value.slice p' 4 c',
 Value.string (ByteArray.mk #[32])]
 w'_3 fun (e : Ending) (w'_4 : World) =>
 ∃ (x_9 : ByteArray),
 e = Ending.returned (Value.string x_9) ∧
 CallsS Tryz.prog 48
 #[Value.pointer (some (Addr.mk n 0 none)),
 Value.string x_9]
 w'_4 fun (e : Ending) (w'_5 : World) =>
 ∃ (x_10 : Int),
 ∃ (x_11 : Value),
 e =
 Ending.returned
 (Value.tuple
 #[Value.int IntKind.i64 x_10, x_11]) ∧
 CallsS Tryz.prog 48
 #[Value.pointer (some (Addr.mk n 0 none)),
 Value.string (ByteArray.mk #[10])]
 w'_5 fun (e : Ending) (w'_6 : World) =>
 ∃ (x_12 : Int),
 ∃ (x_13 : Value),
 e =
 Ending.returned
 (Value.tuple
 #[Value.int IntKind.i64 x_12, x_13]) ∧
 I
 [Value.int IntKind.i64
 (IntKind.i64.wrap (x + 1))]
 w'_6 ∧
 m
 [Value.int IntKind.i64
 (IntKind.i64.wrap (x + 1))]
 w'_6 <
 m [Value.int IntKind.i64 x] w')
 (CallsS Tryz.prog 49
 #[Value.slice (some (Addr.mk n_4 0 none)) 3 3,
 Value.string (ByteArray.mk #[32])]
 w1 fun (e : Ending) (w'_2 : World) =>
 ∃ (x_8 : ByteArray),
 e = Ending.returned (Value.string x_8) ∧
 CallsS Tryz.prog 48
 #[Value.pointer (some (Addr.mk n 0 none)), Value.string x_8] w'_2
 fun (e : Ending) (w'_3 : World) =>
 ∃ (x_9 : Int),
 ∃ (x_10 : Value),
 e =
 Ending.returned (Value.tuple #[Value.int IntKind.i64 x_9, x_10]) ∧
 CallsS Tryz.prog 48
 #[Value.pointer (some (Addr.mk n 0 none)),
 Value.string (ByteArray.mk #[10])]
 w'_3 fun (e : Ending) (w'_4 : World) =>
 ∃ (x_11 : Int),
 ∃ (x_12 : Value),
 e =
 Ending.returned
 (Value.tuple #[Value.int IntKind.i64 x_11, x_12]) ∧
 I [Value.int IntKind.i64 (IntKind.i64.wrap (x + 1))] w'_4 ∧
 m [Value.int IntKind.i64 (IntKind.i64.wrap (x + 1))] w'_4 <
 m [Value.int IntKind.i64 x] w')))
 (CallsS Tryz.prog 50 #[Value.pointer (some (Addr.mk n 0 none))] w' fun (e : Ending) (w' : World) =>
 ∃ (x : ByteArray), e = Ending.returned (Value.string x) ∧ R (Ending.returned (Value.string x)) w')
theorem vc_acprint1 (b : Nat) (w : World) (R : Ending → World → Prop) (h : VC_acprint1 b w R) : Calls Tryz.prog 17 ([Value.pointer
    (some { block := b, off := 0 })] : List Value).toArray w R := by
  have e : execR { P := Tryz.prog, loops := [(3, [(11, Ck.int IntKind.i64)])], pur := pur1, tails := [], joins := [], boxes := [] } Tryz.f17.results.toList R (Tryz.f17.body.getD .skip) (initF [Value.pointer
    (some
      { block := b,
        off :=
          0 })] (Tryz.f17.ntmps - ([Value.pointer
    (some { block := b, off := 0 })] : List Value).length)) w = VC_acprint1 b w R := by kernel_rfl
  have hb : Tryz.f17.body = some (Tryz.f17.body.getD .skip) := by kernel_rfl
  exact calls_of_exec' (P := Tryz.prog) (fn := Tryz.f17) (c := Tryz.f17.body.getD .skip) (args := [Value.pointer
    (some { block := b, off := 0 })]) (w := w) (R := R) pur1_ok Tryz.func17 hb e h

end Go.Proofs.YtgmmoghagpmpfaaGreatDoor

/- Chapter 27: the contracts of rangesText and Print. The library's table of powers of ten reads as laid; sets are not too long. -/
namespace Go.Proofs.YtgmmoghagpmpfaaGreatDoor
open Go.RowKit Go.Maps Go.Sort

theorem i64_nat {x : Int} (h : 0 ≤ x ∧ x ≤ 2147483646) : I64 x := ⟨by omega, by omega⟩
theorem ivT_size {x : Iv} (h : 0 ≤ x.a ∧ x.a ≤ x.b ∧ x.b ≤ 2147483646) : (ivT x).size ≤ 43 := by
  have h1 := decI_size (i64_nat (x := x.a) (by omega))
  have h2 := decI_size (i64_nat (x := x.b) (by omega))
  unfold ivT
  split
  · rw [ByteArray.size_append, ByteArray.size_append, size_one]; omega
  · omega
theorem sumZ_iv {hi : Int} : ∀ {lo : Int} {l : List Iv}, 0 ≤ lo → hi ≤ 2147483646 → IvS hi lo l → sumZ (l.map ivT) ≤ 43 * l.length
  | _, [], _, _, _ => Nat.le_refl _
  | lo, x :: t, h0, hh, h => by
    obtain ⟨h1, h2, h3, h4⟩ := h
    have := sumZ_iv (by omega) hh h4
    have := ivT_size (x := x) (by omega)
    rw [List.map_cons, sumZ_cons, List.length_cons]; omega
theorem rngT_size {hi : Int} {l : List Iv} (hh : hi ≤ 2147483646) (h : IvS hi 1 l) : (rngT l).size ≤ 44 * l.length := by
  have h1 := joinT_size 44 (l.map ivT)
  have h2 := sumZ_iv (by omega) hh h
  rw [List.length_map] at h1
  unfold rngT; omega
set_option maxHeartbeats 1000000 in
theorem artext_any (l : List Iv) (p : Option Addr) (c : Nat) {hi : Int} (w : World) (hR : RowA ivC 2 w p l) (hiv : IvS hi 1 l) (hh : hi ≤ 2147483646) (hl : l.length ≤ 1000000) (hT : GT w) :
    Calls Tryz.prog 47 #[.slice p l.length c] w fun e w' => e = .returned (.string (rngT l)) ∧ K0 w w' := by
  refine vc_acrtext p l.length c w _ ?_
  refine ⟨fun vs w' => ∃ (i : Nat) (q : Option Addr) (d : Nat), vs = [.int .i64 (i : Int), .slice q i d] ∧ i ≤ l.length ∧ w'.ownsRow w.heap.size 9 1 (.slice q i d) i (((l.take i).map ivT).map Value.string) ∧ K0 w w',
    fun vs _ => (match vs with | .int _ a :: _ => l.length - a.toNat | _ => 0), ⟨0, none, 0, rfl, by omega, World.ownsRow_nil _ _ _ _, .refl _ _⟩, ?_⟩
  rintro x p1 n1 c1 w1 ⟨i, q, d, hv, hi1, ho, k1⟩
  simp only [List.cons.injEq, Value.int.injEq, Value.slice.injEq, true_and, and_true] at hv
  obtain ⟨rfl, rfl, rfl, rfl⟩ := hv
  refine bsp_intro (fun hlt => ?_) (fun hge => ?_)
  · have hlt : n1 < l.length := by simp at hlt; omega
    obtain ⟨z, zb, zo, hz, hzp, hzat⟩ := (hR.k0 k1).get hlt
    have hzz := hiv.mem z (List.mem_of_getElem? hz)
    have htk := take_snoc hz
    rw [Int.toNat_natCast]
    refine nn_is hzp ⟨⟨by omega, by omega⟩, z.a, z.b, hzat, fun n2 W hW => ?_⟩
    have k2 : K0 w1 W := hW.kk rfl
    have g2 : w1.heap.size ≤ n2 := hW.fresh 0 rfl rfl
    have c2 := hW.cells 0 rfl
    refine ⟨(digits_any z.a W (hT.k0 (k1.trans k2)) (i64_nat (by omega))).mono fun e w3 ⟨he, k3⟩ => ⟨_, he, .of_k0 k3, bsp_intro (fun hb => ?_) (fun hb => ?_)⟩⟩
    · have hb : z.a < z.b := by simpa using hb
      refine ⟨(digits_any z.b w3 (hT.k0 ((k1.trans k2).trans k3)) (i64_nat (by omega))).mono fun e w4 ⟨he, k4⟩ => ⟨_, he, .of_k0 k4, ?_, ?_, fun n3 W5 hW5 => ?_⟩⟩
      · have := decI_size (i64_nat (x := z.b) (by omega))
        rw [size_one]; exact nneg (by omega)
      · have := decI_size (i64_nat (x := z.b) (by omega))
        have := decI_size (i64_nat (x := z.a) (by omega))
        rw [ByteArray.size_append, size_one]; exact nneg (by omega)
      · have k5 : K0 w1 W5 := ((k2.trans k3).trans k4).trans (hW5.kk rfl)
        have ho5 := owns_kp ho k5 (fun _ _ h => h)
        have c25 : W5.heap[n2]? = _ := ((k3.trans k4).trans (hW5.kk rfl)).blk c2 (fun h => h)
        refine ⟨_, _, ho5, by omega, by omega, (k1.trans k5).size, fun p' c' w6 ho6 hg6 _ => ⟨.of_kp (kp_grown hg6) (fun k hk e => ?_), ⟨n1 + 1, p', c', by rw [inc64 (by omega)], hlt, ?_, (k1.trans k5).fresh (kp_grown hg6) (fun j hj e => by have := own_ge ho5 e; omega)⟩, by rw [inc64 (by omega)]; simp only [Int.toNat_natCast]; omega⟩⟩
        · simp only [List.mem_cons, List.not_mem_nil, or_false] at hk
          subst hk
          exact own_not ho5 c25 rfl e
        · have e1 : ivT z = decI z.a ++ (⟨#[45]⟩ ++ decI z.b) := by unfold ivT; rw [if_pos hb, ByteArray.append_assoc]
          have e2 : List.map Value.string (List.map ivT [z]) = [.string (decI z.a ++ (⟨#[45]⟩ ++ decI z.b))] := by show [Value.string (ivT z)] = _; rw [e1]
          rw [htk, List.map_append, List.map_append, e2]
          exact ho6
    · have hb : ¬ z.a < z.b := by simpa using hb
      intro n3 W5 hW5
      have k5 : K0 w1 W5 := (k2.trans k3).trans (hW5.kk rfl)
      have ho5 := owns_kp ho k5 (fun _ _ h => h)
      have c25 : W5.heap[n2]? = _ := (k3.trans (hW5.kk rfl)).blk c2 (fun h => h)
      refine ⟨_, _, ho5, by omega, by omega, (k1.trans k5).size, fun p' c' w6 ho6 hg6 _ => ⟨.of_kp (kp_grown hg6) (fun k hk e => ?_), ⟨n1 + 1, p', c', by rw [inc64 (by omega)], hlt, ?_, (k1.trans k5).fresh (kp_grown hg6) (fun j hj e => by have := own_ge ho5 e; omega)⟩, by rw [inc64 (by omega)]; simp only [Int.toNat_natCast]; omega⟩⟩
      · simp only [List.mem_cons, List.not_mem_nil, or_false] at hk
        subst hk
        exact own_not ho5 c25 rfl e
      · have e1 : ivT z = decI z.a := by unfold ivT; rw [if_neg hb]
        have e2 : List.map Value.string (List.map ivT [z]) = [.string (decI z.a)] := by show [Value.string (ivT z)] = _; rw [e1]
        rw [htk, List.map_append, List.map_append, e2]
        exact ho6
  · have hi2 : n1 = l.length := by simp at hge; omega
    subst hi2
    rw [List.take_length] at ho
    have hS : StrP w1 p1 (l.map ivT) := fun k z hk => by
      obtain ⟨g, v, h1, h2, h3⟩ := own_cell ho (show k < l.length by have := (List.getElem?_eq_some_iff.1 hk).1; simpa using this)
      rw [List.getElem?_map, hk] at h2
      simp at h2
      subst h2
      exact ⟨g, 0, h1, h3⟩
    have hj := join_any 44 (l.map ivT) p1 c1 w1 hS (by simp; omega) (by have := sumZ_iv (by omega) hh hiv; omega) (by simpa using own_le ho)
    rw [List.length_map] at hj
    exact ⟨hj.mono fun e w2 ⟨he, k2⟩ => ⟨_, he, .of_k0 k2, rfl, k1.trans k2⟩⟩

/-- Sizes of lines. -/
theorem lnT_size {s : ByteArray} {v : Gv} (h : LnOK s v) (hl : v.l.length ≤ 1000000) : (lnT (s, v)).size ≤ 44000200 ∧ sumZ (wdT s v) ≤ 44000150 ∧ (wdT s v).length ≤ 4 := by
  have h1 := name_size h.nm
  have h2 := decI_size (i64_nat (x := v.h) ⟨h.h0, h.hi⟩)
  have h3 : (ynT v.c).size = 1 := by unfold ynT; split <;> rfl
  have h4 := rngT_size h.hi h.iv
  have h5 : sumZ (wdT s v) ≤ 44000150 ∧ (wdT s v).length ≤ 4 := by
    unfold wdT
    cases hv : v.l with
    | nil => simp only [sumZ, List.map_cons, List.map_nil, List.sum_cons, List.sum_nil, List.length_cons, List.length_nil]; omega
    | cons x t =>
      rw [hv] at h4 hl
      simp only [sumZ, List.map_cons, List.map_nil, List.sum_cons, List.sum_nil, List.length_cons, List.length_nil] at h4 hl ⊢
      omega
  refine ⟨?_, h5⟩
  have h6 := joinT_size 32 (wdT s v)
  unfold lnT
  rw [ByteArray.size_append, size_one]
  show (joinT 32 (wdT s v)).size + 1 ≤ _
  omega
theorem prT_size : ∀ {A : TA}, (∀ p ∈ A, LnOK p.1 p.2 ∧ p.2.l.length ≤ 1000000) → (prT A).size ≤ 44000200 * A.length
  | [], _ => Nat.le_refl _
  | p :: A, h => by
    have h1 : (lnT p).size ≤ 44000200 := (lnT_size (h p List.mem_cons_self).1 (h p List.mem_cons_self).2).1
    have h2 := prT_size (fun q hq => h q (List.mem_cons_of_mem _ hq))
    rw [prT_cons, ByteArray.size_append, List.length_cons]
    omega
theorem owns_same {w w' : World} {base : Nat} {e : TypeId} {size : Nat} {v : Value} {n : Nat} {xs : List Value} (h : w.ownsRow base e size v n xs) (hk : ∀ k, v.ownBlock = some k → w'.heap[k]? = w.heap[k]?) : w'.ownsRow base e size v n xs := by
  refine ⟨h.1, ?_⟩
  rcases h.2 with h2 | ⟨g, cap, cur, hv, hb, hg, h4⟩
  · exact .inl h2
  · exact .inr ⟨g, cap, cur, hv, hb, by rw [hk g (by rw [hv]; rfl)]; exact hg, h4⟩
theorem strP_own {w : World} {base n c : Nat} {p : Option Addr} {l : List ByteArray} (h : w.ownsRow base 9 1 (.slice p n c) n (l.map Value.string)) (hn : l.length ≤ n) : StrP w p l := fun k z hk => by
  obtain ⟨g, v, h1, h2, h3⟩ := own_cell h (show k < n by have := (List.getElem?_eq_some_iff.1 hk).1; omega)
  rw [List.getElem?_map, hk] at h2
  simp at h2
  subst h2
  exact ⟨g, 0, h1, h3⟩
section
variable {w : World} {B b mb : Nat} {m : TM} {A : TA}
theorem strP_lit {w : World} {n : Nat} {zs : List ByteArray} {t : TypeId} {f : Nat × Nat} (h : w.heap[n]? = some (.cells (zs.map Value.string).toArray t f)) : StrP w (some ⟨n, 0, none⟩) zs := fun j z hj => ⟨n, 0, rfl, by rw [Nat.zero_add, cell_block h]; simp [hj]⟩
theorem own_lit {w : World} {n B : Nat} {zs : List Value} {t : TypeId} (h : w.heap[n]? = some (.cells zs.toArray t (0, 0))) (hB : B ≤ n) (hl : zs.length ≤ 1000) : w.ownsRow B t 1 (.slice (some ⟨n, 0, none⟩) zs.length zs.length) zs.length zs :=
  ⟨by simp, .inr ⟨n, zs.length, zs.toArray, rfl, hB, h, Nat.le_refl _, by unfold maxLen; omega, by simp, by simp⟩⟩
set_option maxHeartbeats 4000000 in
theorem acprint_any (h : Tq w B b mb m A) (hG : GW w) (hT : GT w) (hl : ∀ p ∈ A, p.2.l.length ≤ 1000000) : Calls Tryz.prog 17 #[.pointer (some ⟨b, 0, none⟩)] w fun e w' => e = .returned (.string (prT A)) ∧ K0 w w' := by
  have hln : ∀ p ∈ A, LnOK p.1 p.2 ∧ p.2.l.length ≤ 1000000 := fun p hp => ⟨h.wf.ln hp, hl p hp⟩
  refine vc_acprint1 b w _ (fun n W hW => ?_)
  have kW : K0 w W := hW.kp _
  have gn : w.heap.size ≤ n := hW.ge
  have hB0 := Bld.new hW.block
  have ln := hB0.lt
  refine ⟨(acgroups_any (h.k0 kW) (hG.kp kW (fun h => h))).mono fun e w1 ⟨⟨p, c, he, ho⟩, k1⟩ => ⟨_, _, _, he, ?_⟩⟩
  have hal : (A.map (·.1)).length = A.length := by simp
  rw [hal]
  rw [hal] at ho
  obtain ⟨I, hI⟩ : ∃ I : List Value → World → Prop, I = fun vs w' => ∃ i : Nat, vs = [.int .i64 (i : Int)] ∧ i ≤ A.length ∧ Bld n (prT (A.take i)) w' ∧ w'.ownsRow W.heap.size 9 1 (.slice p A.length c) A.length ((A.map (·.1)).map Value.string) ∧ K0 w w' := ⟨_, rfl⟩
  obtain ⟨M, hM⟩ : ∃ M : List Value → World → Nat, M = fun vs _ => (match vs with | .int _ a :: _ => A.length - a.toNat | _ => 0) := ⟨_, rfl⟩
  refine ⟨I, M, by rw [hI]; exact ⟨0, rfl, by omega, hB0.k0 k1, ho, kW.trans k1⟩, ?_⟩
  intro x w2 hx
  have hx' := hx
  rw [hI] at hx'
  obtain ⟨i, hv, hi, hB2, ho2, k2⟩ := hx'
  simp only [List.cons.injEq, Value.int.injEq, true_and, and_true] at hv
  subst hv
  have hA4 := h.len
  refine bsp_intro (fun hlt => ?_) (fun hge => ?_)
  · have hlt : i < A.length := by simp at hlt; omega
    obtain ⟨pr, hpr⟩ : ∃ y, A[i]? = some y := ⟨_, List.getElem?_eq_getElem hlt⟩
    obtain ⟨s, v⟩ := pr
    have hmem := List.mem_of_getElem? hpr
    have hok : LnOK s v := (hln _ hmem).1
    have hvl : v.l.length ≤ 1000000 := (hln _ hmem).2
    obtain ⟨z1, z2, z3⟩ := lnT_size hok hvl
    have hsz := prT_size (A := A.take i) (fun q hq => hln q (List.take_subset _ _ hq))
    have hsz2 : 44000200 * (A.take i).length ≤ 44000200 * 4096 := Nat.mul_le_mul_left _ (by rw [List.length_take]; omega)
    have hns : (A.map (·.1))[i]? = some s := by rw [List.getElem?_map, hpr]; rfl
    obtain ⟨s', sb, so, hs', hp, hc⟩ := (strP_own ho2 (by simp)).get (show i < (A.map (·.1)).length by simpa using hlt)
    rw [hns] at hs'
    cases hs'
    have h2 := h.k0 k2
    have hgA : aget A s = some v := aget_at h.wf.dis hmem
    have hgm := h.get s
    rw [hgA] at hgm
    cases hy : aget m s with
    | none => rw [hy] at hgm; cases hgm
    | some y =>
      rw [hy] at hgm
      have hyv : v = y.v := Option.some.inj hgm
      subst hyv
      have hss : s.size ≤ 80 := name_size hok.nm
      have hlk : LookP Tryz.prog 97 (.map (some mb)) (.string s) false (gxV y) w2 := by
        have := h2.z.look0 (g := s) (by omega)
        rw [hy] at this
        exact this
      rw [Int.toNat_natCast]
      refine nn_is hp ⟨⟨by omega, by omega⟩, s, hc, some mb, h2.z.cM, y.v.h, y.v.c, y.p, y.v.l.length, y.c, hlk, fun n3 wa ha => ⟨WrL_block ha.block (by show 0 + 3 ≤ 3; omega), fun wb hb => ?_⟩⟩
      have c3 : wb.heap[n3]? = some (.cells #[.int .i64 y.v.h, .bool y.v.c, .slice y.p y.v.l.length y.c] 94 (0, 0)) := hb.full ha.block rfl
      have g3 : w2.heap.size ≤ n3 := ha.ge
      have k2b : K0 w2 wb := put_k0 (ha.kp _) hb g3
      refine ⟨y.v.h, cell_at c3 rfl, ⟨(digits_any y.v.h wb (hT.k0 (k2.trans k2b)) (i64_nat ⟨hok.h0, hok.hi⟩)).mono fun e w4 ⟨he, k4⟩ => ⟨_, he, fun n4 w5 h5 => ?_⟩⟩⟩
      have k25 : K0 w2 w5 := (k2b.trans k4).trans (h5.kp _)
      have c35 := ((k4.trans (h5.kp _)).blk c3 (fun h => h))
      have c45 := h5.block
      have g4 : w2.heap.size ≤ n4 := Nat.le_trans (k2b.trans k4).size h5.ge
      have g43 : n3 < n4 := Nat.lt_of_lt_of_le (block_lt (k4.blk c3 (fun h => h))) h5.ge
      -- the tail of a line
      have tail : ∀ {W5 : World} (ws : List ByteArray) (q : Option Addr) (kk cc : Nat), kk = ws.length → StrP W5 q ws → ws = wdT s y.v → ws.length ≤ cc → K0 w2 W5 →
          CallsS Tryz.prog 49 #[.slice q kk cc, .string ⟨#[32]⟩] W5 fun e w' => ∃ x_6, e = .returned (.string x_6) ∧ CallsS Tryz.prog 48 #[.pointer (some ⟨n, 0, none⟩), .string x_6] w' fun e w'_3 => ∃ x_7 x_8, e = .returned (.tuple #[.int .i64 x_7, x_8]) ∧
            CallsS Tryz.prog 48 #[.pointer (some ⟨n, 0, none⟩), .string ⟨#[10]⟩] w'_3 fun e w'_4 => ∃ x_9 x_10, e = .returned (.tuple #[.int .i64 x_9, x_10]) ∧ I [.int .i64 (IntKind.i64.wrap ((i : Int) + 1))] w'_4 ∧ M [.int .i64 (IntKind.i64.wrap ((i : Int) + 1))] w'_4 < M [.int .i64 (i : Int)] w2 := by
        intro W5 ws q kk cc hkk hS5 hws hcc k5
        subst hkk
        subst hws
        refine ⟨(join_any 32 (wdT s y.v) q cc W5 hS5 (by omega) (by omega) hcc).mono fun e w6 ⟨he, k6⟩ => ⟨_, he, ?_⟩⟩
        have k26 := k5.trans k6
        have hjs := joinT_size 32 (wdT s y.v)
        have hB6 := hB2.k0 k26
        refine ⟨(hB6.write (joinT 32 (wdT s y.v)) (by omega)).mono fun e w7 ⟨he, hB7, k7, f7⟩ => ⟨_, _, he, ?_⟩⟩
        refine ⟨(hB7.write ⟨#[10]⟩ (by rw [ByteArray.size_append, size_one]; omega)).mono fun e w8 ⟨he, hB8, k8, f8⟩ => ⟨_, _, he, ?_, ?_⟩⟩
        · rw [inc64 (by omega), hI]
          refine ⟨i + 1, rfl, hlt, ?_, ?_, ((k2.trans k26).fresh k7 (fun j hj e => by omega)).fresh k8 (fun j hj e => by omega)⟩
          · rw [take_snoc hpr, prT_snoc]
            unfold lnT
            rw [← ByteArray.append_assoc]
            exact hB8
          · have ho6 := owns_kp ho2 k26 (fun _ _ h => h)
            have ho7 : w7.ownsRow W.heap.size 9 1 (.slice p A.length c) A.length ((A.map (·.1)).map Value.string) := owns_same ho6 (fun k hk => by
              obtain ⟨cc', hcc'⟩ := own_type ho6 hk
              exact f7 k _ _ _ hcc' (by have := own_ge ho6 hk; omega) (by decide))
            exact owns_same ho7 (fun k hk => by
              obtain ⟨cc', hcc'⟩ := own_type ho7 hk
              exact f8 k _ _ _ hcc' (by have := own_ge ho7 hk; omega) (by decide))
        · rw [inc64 (by omega), hM]
          show A.length - ((i + 1 : Nat) : Int).toNat < A.length - ((i : Nat) : Int).toNat
          simp only [Int.toNat_natCast]; omega
      -- a line whose three words lie
      have rest : ∀ {W5 : World}, K0 w2 W5 → W5.heap[n3]? = some (.cells #[.int .i64 y.v.h, .bool y.v.c, .slice y.p y.v.l.length y.c] 94 (0, 0)) → W5.heap[n4]? = some (.cells #[.string s, .string (decI y.v.h), .string (ynT y.v.c)] 9 (0, 0)) →
          (∃ (p : Option Addr) (n_5 c : Nat), W5.cell? ⟨n3, 0 + 2, none⟩ = some (.slice p n_5 c) ∧
            bsp (decide ((n_5 : Int) > 0)) (∃ (p : Option Addr) (n_6 c : Nat), W5.cell? ⟨n3, 0 + 2, none⟩ = some (.slice p n_6 c) ∧
              CallsS Tryz.prog 47 #[.slice p n_6 c] W5 fun e w'_2 => ∃ x_8, e = .returned (.string x_8) ∧
                ∀ (n_7 : Nat) (w1 : World), NewB w'_2 (.cells #[.string x_8] 9) n_7 w1 → ∃ (base : Nat) (xs news : List Value), w1.ownsRow base 9 1 (.slice (some ⟨n4, 0, none⟩) 3 3) 3 xs ∧ news.length = 1 ∧ SrcP w1 (some ⟨n_7, 0, none⟩) news ∧ (4 : Nat) ≤ 9223372036854775807 ∧ (64 : Nat) ≤ 140737488355328 ∧ base ≤ w1.heap.size ∧
                ∀ (p' : Option Addr) (c' : Nat) (w'_3 : World), w'_3.ownsRow base 9 1 (.slice p' 4 c') 4 (xs ++ news) → w1.grownBy w'_3 (Value.slice (some ⟨n4, 0, none⟩) 3 3).ownBlock → AppL w1 (some ⟨n4, 0, none⟩) 3 3 1 p' c' →
                CallsS Tryz.prog 49 #[.slice p' 4 c', .string ⟨#[32]⟩] w'_3 fun e w' => ∃ x_6, e = .returned (.string x_6) ∧ CallsS Tryz.prog 48 #[.pointer (some ⟨n, 0, none⟩), .string x_6] w' fun e w'_3 => ∃ x_7 x_8, e = .returned (.tuple #[.int .i64 x_7, x_8]) ∧
            CallsS Tryz.prog 48 #[.pointer (some ⟨n, 0, none⟩), .string ⟨#[10]⟩] w'_3 fun e w'_4 => ∃ x_9 x_10, e = .returned (.tuple #[.int .i64 x_9, x_10]) ∧ I [.int .i64 (IntKind.i64.wrap ((i : Int) + 1))] w'_4 ∧ M [.int .i64 (IntKind.i64.wrap ((i : Int) + 1))] w'_4 < M [.int .i64 (i : Int)] w2)
            (CallsS Tryz.prog 49 #[.slice (some ⟨n4, 0, none⟩) 3 3, .string ⟨#[32]⟩] W5 fun e w' => ∃ x_6, e = .returned (.string x_6) ∧ CallsS Tryz.prog 48 #[.pointer (some ⟨n, 0, none⟩), .string x_6] w' fun e w'_3 => ∃ x_7 x_8, e = .returned (.tuple #[.int .i64 x_7, x_8]) ∧
            CallsS Tryz.prog 48 #[.pointer (some ⟨n, 0, none⟩), .string ⟨#[10]⟩] w'_3 fun e w'_4 => ∃ x_9 x_10, e = .returned (.tuple #[.int .i64 x_9, x_10]) ∧ I [.int .i64 (IntKind.i64.wrap ((i : Int) + 1))] w'_4 ∧ M [.int .i64 (IntKind.i64.wrap ((i : Int) + 1))] w'_4 < M [.int .i64 (i : Int)] w2)) := by
        intro W5 k5 d3 d4
        have hd4 : W5.heap[n4]? = some (.cells (([s, decI y.v.h, ynT y.v.c].map Value.string).toArray) 9 (0, 0)) := d4
        refine ⟨y.p, y.v.l.length, y.c, cell_at d3 rfl, bsp_intro (fun hb => ?_) (fun hb => ?_)⟩
        · have hb : 0 < y.v.l.length := by simp at hb; omega
          have ew : wdT s y.v = [s, decI y.v.h, ynT y.v.c, rngT y.v.l] := by
            unfold wdT
            cases hv : y.v.l with
            | nil => rw [hv] at hb; cases hb
            | cons a t => rfl
          refine ⟨y.p, y.v.l.length, y.c, cell_at d3 rfl, ⟨(artext_any y.v.l y.p y.c W5 ((h.rowOf hy).k0 (k2.trans k5)) hok.iv hok.hi hvl (hT.k0 (k2.trans k5))).mono fun e w6 ⟨he, k6⟩ => ⟨_, he, fun n7 w7 h7 => ?_⟩⟩⟩
          have k57 : K0 W5 w7 := k6.trans (h7.kp _)
          have ho7 := own_lit (B := w2.heap.size) (zs := [s, decI y.v.h, ynT y.v.c].map Value.string) (k57.blk hd4 (fun h => h)) g4 (by simp)
          refine ⟨w2.heap.size, _, [.string (rngT y.v.l)], ho7, rfl, src_block h7.block (by intro u hu; simp at hu; subst hu; rfl), by omega, by omega, (k5.trans k57).size, fun p' c' w8 ho8 hg8 _ => ?_⟩
          have k28 : K0 w2 w8 := (k5.trans k57).fresh (kp_grown hg8) (fun j hj e => by have := own_ge ho7 e; omega)
          refine tail [s, decI y.v.h, ynT y.v.c, rngT y.v.l] p' 4 c' rfl (strP_own (l := [s, decI y.v.h, ynT y.v.c, rngT y.v.l]) ho8 (by simp)) ew.symm (own_le ho8) k28
        · have hb : y.v.l = [] := List.eq_nil_of_length_eq_zero (by simp at hb; simp [hb])
          have ew : wdT s y.v = [s, decI y.v.h, ynT y.v.c] := by unfold wdT; rw [hb]
          exact tail [s, decI y.v.h, ynT y.v.c] (some ⟨n4, 0, none⟩) 3 3 rfl (strP_lit hd4) ew.symm (Nat.le_refl _) k5
      refine ⟨y.v.c, cell_at c35 rfl, bsp_intro (fun hb => ?_) (fun hb => ?_)⟩
      · refine ⟨⟨by omega, by omega⟩, cell_wr c45 (by show 2 < 3; omega), fun w6 hp6 => ?_⟩
        have k26 : K0 w2 w6 := put_k0 k25 hp6 g4
        refine rest k26 (hp6.kp.blk c35 (fun e => by omega)) ?_
        rw [hp6.block c45]
        have : ynT y.v.c = ⟨#[110]⟩ := by rw [hb]; rfl
        rw [this]; rfl
      · refine rest k25 c35 ?_
        rw [c45]
        have : ynT y.v.c = ⟨#[121]⟩ := by rw [hb]; rfl
        rw [this]
  · have hi2 : i = A.length := by simp at hge; omega
    subst hi2
    rw [List.take_length] at hB2
    exact ⟨hB2.text.mono fun e w5 ⟨he, k5⟩ => ⟨_, he, rfl, k2.fresh k5 (fun j hj e => by omega)⟩⟩
end

end Go.Proofs.YtgmmoghagpmpfaaGreatDoor

/- Chapter 27: the contracts of strings.Split, strings.Cut at a byte, of parseRanges. Texts are not too long; the library's variable MaxLen holds a number. -/
namespace Go.Proofs.YtgmmoghagpmpfaaGreatDoor
open Go.RowKit Go.Maps Go.Sort

theorem k0_drewN (w : World) (n : Nat) : K0 w (w.drewN n) := ⟨rfl, rfl, rfl, Nat.le_refl _, fun _ _ _ => rfl⟩
theorem split27_any (d : UInt8) (s : ByteArray) (w : World) (hs : s.size ≤ 1073741824) (hG : GW w) :
    Calls Tryz.prog 68 #[.string s, .string ⟨#[d]⟩] w fun e w' => (∃ (p : Option Addr), e = .returned (.slice p (partsC d s).length (partsC d s).length) ∧ StrP w' p (partsC d s)) ∧ K0 w w' := by
  obtain ⟨mm, hG1⟩ := hG
  refine (Tryz.strings_Split s ⟨#[d]⟩ mm w (by omega) hG1 (by show 1 ≤ 1; omega)).mono fun e w2 ⟨he, hw2⟩ => ?_
  have hlen : (partsC d s).length = Lib.countB s ⟨#[d]⟩ + 1 := Lib.splitB_all ⟨#[d]⟩ (by show 0 < 1; omega) 0 _ s rfl
  have hn2 : NewB w (.cells ((partsC d s).map .string).toArray 9) w.heap.size w2 := ⟨rfl, hw2⟩
  rw [← hlen] at he
  exact ⟨⟨_, he, strP_lit hn2.block⟩, hn2.kp _⟩
theorem cut27_any (d : UInt8) (s : ByteArray) (w : World) (hs : s.size ≤ 1073741824) (hG : GW w) :
    Calls Tryz.prog 42 #[.string s, .string ⟨#[d]⟩] w fun e w' => e = .returned (.tuple #[.string (if findC d s < s.size then s.extract 0 (findC d s) else s), .string (if findC d s < s.size then s.extract (findC d s + 1) s.size else ⟨#[]⟩), .bool (decide (findC d s < s.size))]) ∧ K0 w w' := by
  obtain ⟨mm, hG1⟩ := hG
  refine (Tryz.strings_Cut s ⟨#[d]⟩ mm w (by omega) hG1).mono fun e w2 ⟨he, k, hw⟩ => ⟨?_, by rw [hw]; exact k0_drewN w k⟩
  rw [he]
  have e0 : (⟨#[d]⟩ : ByteArray).data.toList = [d] := rfl
  rw [e0]
  by_cases hi : findC d s < s.size
  · rw [cut_hit (findC_first d s) hi, if_pos hi, if_pos hi, decide_eq_true hi]
  · rw [cut_miss (findC_first d s) hi, if_neg hi, if_neg hi, decide_eq_false hi]
theorem drop_cons27 {α : Type} {l : List α} {i : Nat} {x : α} (h : l[i]? = some x) : l.drop i = x :: l.drop (i + 1) := by
  obtain ⟨h1, h2⟩ := List.getElem?_eq_some_iff.1 h
  rw [List.drop_eq_getElem_cons h1, h2]
theorem ivL_cons (hi : Int) (p : ByteArray) (r : List ByteArray) (n : Int) : ivL hi (p :: r) n = match ivP p hi with | some x => if n ≤ x.a then (ivL hi r (x.b + 2)).map (x :: ·) else none | none => none := rfl
set_option maxHeartbeats 2000000 in
theorem acpranges_any (s : ByteArray) (hi : Int) (w : World) (hs : s.size ≤ 1048576) (h0 : 0 ≤ hi ∧ hi ≤ 2147483646) (hG : GW w) :
    Calls Tryz.prog 70 #[.string s, .int .i64 hi] w fun e w' => (match ivL hi (partsC 44 s) 1 with
      | some l => ∃ p c, e = .returned (.tuple #[.slice p (List.length l) c, .bool true]) ∧ w'.ownsRow w.heap.size 105 2 (.slice p l.length c) l.length (l.flatMap ivC)
      | none => e = .returned (.tuple #[.slice none 0 0, .bool false])) ∧ K0 w w' := by
  refine vc_acpranges s hi w _ ⟨(split27_any 44 s w (by omega) hG).mono fun e w1 ⟨⟨p, he, hS⟩, k1⟩ => ⟨_, _, _, he, .of_k0 k1, ?_⟩⟩
  have hpl := parts_len 44 s
  have hps := parts_size 44 s
  generalize partsC 44 s = L at hS hpl hps ⊢
  refine ⟨fun vs w' => ∃ (i : Nat) (acc : List Iv) (q : Option Addr) (c : Nat) (nx : Int), vs = [.int .i64 (i : Int), .slice q acc.length c, .int .i64 nx] ∧ i ≤ L.length ∧ acc.length ≤ i ∧ 0 ≤ nx ∧ nx ≤ 4294967296 ∧ ivL hi L 1 = (ivL hi (L.drop i) nx).map (acc ++ ·) ∧
      w'.ownsRow w1.heap.size 105 2 (.slice q acc.length c) acc.length (acc.flatMap ivC) ∧ K0 w w' ∧ K0 w1 w',
    fun vs _ => (match vs with | .int _ a :: _ => L.length - a.toNat | _ => 0), ⟨0, [], none, 0, 1, rfl, by omega, by simp, by omega, by omega, by rw [List.drop_zero]; cases ivL hi L 1 <;> rfl, World.ownsRow_nil _ _ _ _, k1, .refl _ _⟩, ?_⟩
  rintro x p1 n1 c1 x1 w2 ⟨i, acc, q, c, nx, hv, hi1, hal, hn0, hn1, hE, ho, k2, kk2⟩
  simp only [List.cons.injEq, Value.int.injEq, Value.slice.injEq, true_and, and_true] at hv
  obtain ⟨rfl, ⟨rfl, rfl, rfl⟩, rfl⟩ := hv
  refine bsp_intro (fun hlt => ?_) (fun hge => ?_)
  · have hlt : i < L.length := by simp at hlt; omega
    obtain ⟨t, tb, tq, ht, hp, hc⟩ := (hS.k0 kk2).get hlt
    have htz := hps t (List.mem_of_getElem? ht)
    rw [drop_cons27 ht, ivL_cons] at hE
    have hG2 := hG.kp k2 (fun h => h)
    rw [Int.toNat_natCast]
    have fail : ∀ {w' : World}, K0 w w' → ivL hi L 1 = none → (match ivL hi L 1 with
      | some l => ∃ p c, Ending.returned (Value.tuple #[.slice none 0 0, .bool false]) = .returned (.tuple #[.slice p (List.length l) c, .bool true]) ∧ w'.ownsRow w.heap.size 105 2 (.slice p l.length c) l.length (l.flatMap ivC)
      | none => Ending.returned (Value.tuple #[.slice none 0 0, .bool false]) = .returned (.tuple #[.slice none 0 0, .bool false])) ∧ K0 w w' := fun k e => by
      rw [e]; exact ⟨rfl, k⟩
    -- an interval is appended
    have app : ∀ {w3 : World} (z : Iv), ivP t hi = some z → x1 ≤ z.a → z.b ≤ 2147483646 → 0 ≤ z.b → K0 w2 w3 →
        ∀ (n : Nat) (W : World), Loc w.heap.size [Blk.mk n 105 [.int .i64 z.a, .int .i64 z.b] 2] w3 W → ∃ (base : Nat) (xs : List Value), W.ownsRow base 105 2 (.slice p1 acc.length c1) acc.length xs ∧ acc.length + 1 ≤ 9223372036854775807 ∧ (acc.length + 1) * 16 ≤ 140737488355328 ∧ base ≤ W.heap.size ∧
          ∀ (p' : Option Addr) (c' : Nat) (w' : World), w'.ownsRow base 105 2 (.slice p' (acc.length + 1) c') (acc.length + 1) (xs ++ [.int .i64 z.a, .int .i64 z.b]) → W.grownBy w' (Value.slice p1 acc.length c1).ownBlock → AppL W p1 acc.length c1 1 p' c' → KeptL [] W w' ∧
          (∃ (j : Nat) (acc' : List Iv) (q : Option Addr) (c : Nat) (nx : Int), [Value.int .i64 (IntKind.i64.wrap ((i : Int) + 1)), .slice p' (acc.length + 1) c', .int .i64 (IntKind.i64.wrap (z.b + 2))] = [.int .i64 (j : Int), .slice q acc'.length c, .int .i64 nx] ∧ j ≤ L.length ∧ acc'.length ≤ j ∧ 0 ≤ nx ∧ nx ≤ 4294967296 ∧ ivL hi L 1 = (ivL hi (L.drop j) nx).map (acc' ++ ·) ∧
            w'.ownsRow w1.heap.size 105 2 (.slice q acc'.length c) acc'.length (acc'.flatMap ivC) ∧ K0 w w' ∧ K0 w1 w') ∧ L.length - (IntKind.i64.wrap ((i : Int) + 1)).toNat < L.length - ((i : Nat) : Int).toNat := by
      intro w3 z hz hza hzb hzb0 k23 n W hW
      rw [hz] at hE
      simp only at hE
      rw [if_pos hza] at hE
      have k3 : K0 w2 W := k23.trans (hW.kk rfl)
      have ho3 := owns_kp ho k3 (fun _ _ h => h)
      refine ⟨w1.heap.size, _, ho3, by omega, by omega, (kk2.trans k3).size, fun p' c' w' ho' hg' _ => ⟨⟨hg'.size, fun _ hm => by cases hm⟩, ⟨i + 1, acc ++ [z], p', c', z.b + 2, ?_, hlt, by simp; omega, by omega, by omega, ?_, ?_, (k2.trans k3).fresh (kp_grown hg') (fun j hj e => by have := own_ge ho3 e; have := k1.size; omega), (kk2.trans k3).fresh (kp_grown hg') (fun j hj e => by have := own_ge ho3 e; omega)⟩, ?_⟩⟩
      · rw [inc64 (by omega), wr64 (by omega) (by omega), List.length_append]; rfl
      · rw [hE]
        cases ivL hi (L.drop (i + 1)) (z.b + 2) with
        | none => rfl
        | some l => simp
      · rw [List.flatMap_append, List.length_append]
        exact ho'
      · rw [inc64 (by omega)]; simp only [Int.toNat_natCast]; omega
    refine nn_is hp ⟨⟨by omega, by omega⟩, t, hc, ⟨(cut27_any 45 t w2 (by omega) hG2).mono fun e w3 ⟨he, k3⟩ => ⟨_, _, _, he, .of_k0 k3, ?_⟩⟩⟩
    by_cases hk : findC 45 t < t.size
    · rw [if_pos hk, if_pos hk, decide_eq_true hk]
      have zl : (t.extract 0 (findC 45 t)).size ≤ 1048576 := by rw [ByteArray.size_extract]; omega
      have zu : (t.extract (findC 45 t + 1) t.size).size ≤ 1048576 := by rw [ByteArray.size_extract]; omega
      have eP : ivP t hi = if (numR (t.extract 0 (findC 45 t)) hi).2 = 0 ∧ (numR (t.extract (findC 45 t + 1) t.size) hi).2 = 0 ∧ (numR (t.extract 0 (findC 45 t)) hi).1 < (numR (t.extract (findC 45 t + 1) t.size) hi).1
        then some ⟨(numR (t.extract 0 (findC 45 t)) hi).1, (numR (t.extract (findC 45 t + 1) t.size) hi).1⟩ else none := by unfold ivP; rw [if_pos hk]
      refine ⟨(anum_any (t.extract 0 (findC 45 t)) hi w3 (by omega) (by omega)).mono fun e w4 ⟨he, k4⟩ => ⟨_, _, he, .of_k0 k4, bsp_intro (fun hb => ?_) (fun hb => bsp_intro (fun _ => ⟨(anum_any (t.extract (findC 45 t + 1) t.size) hi w4 (by omega) (by omega)).mono fun e w5 ⟨he, k5⟩ => ⟨_, _, he, .of_k0 k5, bsp_intro (fun hd => ?_) (fun hd => ?_)⟩⟩) (fun h => by cases h))⟩⟩
      · refine fail ((k2.trans k3).trans k4) ?_
        rw [hE, eP]
        simp only [Bool.or_eq_true, bne_iff_ne, ne_eq, decide_eq_true_eq] at hb
        split
        · rename_i z hz
          split at hz
          · rename_i hh
            cases hz
            rcases hb with hb | hb
            · exact absurd hh.1 hb
            · rw [if_neg (by show ¬ x1 ≤ (numR _ hi).1; omega)]; rfl
          · cases hz
        · rfl
      · refine fail (((k2.trans k3).trans k4).trans k5) ?_
        rw [hE, eP]
        simp only [Bool.or_eq_true, bne_iff_ne, ne_eq, decide_eq_true_eq] at hd
        rw [if_neg (fun hh => by
          rcases hd with hd | hd
          · exact hd hh.2.1
          · omega)]
        rfl
      · simp only [Bool.or_eq_false_iff, bne_eq_false_iff_eq, decide_eq_false_iff_not] at hb hd
        obtain ⟨_, u1, u2, _⟩ := numR_ok hb.1
        obtain ⟨_, v1, v2, _⟩ := numR_ok hd.1
        exact app ⟨(numR (t.extract 0 (findC 45 t)) hi).1, (numR (t.extract (findC 45 t + 1) t.size) hi).1⟩ (by rw [eP, if_pos ⟨hb.1, hd.1, by omega⟩]) (by show x1 ≤ (numR _ hi).1; omega) (by show (numR _ hi).1 ≤ _; omega) v1 ((k3.trans k4).trans k5)
    · rw [if_neg hk, if_neg hk, decide_eq_false hk]
      have eP : ivP t hi = if (numR t hi).2 = 0 then some ⟨(numR t hi).1, (numR t hi).1⟩ else none := by unfold ivP; rw [if_neg hk]
      refine ⟨(anum_any t hi w3 (by omega) (by omega)).mono fun e w4 ⟨he, k4⟩ => ⟨_, _, he, .of_k0 k4, bsp_intro (fun hb => ?_) (fun hb => bsp_intro (fun h => by cases h) (fun _ => ?_))⟩⟩
      · refine fail ((k2.trans k3).trans k4) ?_
        rw [hE, eP]
        simp only [Bool.or_eq_true, bne_iff_ne, ne_eq, decide_eq_true_eq] at hb
        split
        · rename_i z hz
          split at hz
          · rename_i hh
            cases hz
            rcases hb with hb | hb
            · exact absurd hh hb
            · rw [if_neg (by show ¬ x1 ≤ (numR t hi).1; omega)]; rfl
          · cases hz
        · rfl
      · simp only [Bool.or_eq_false_iff, bne_eq_false_iff_eq, decide_eq_false_iff_not] at hb
        obtain ⟨_, u1, u2, _⟩ := numR_ok hb.1
        exact app ⟨(numR t hi).1, (numR t hi).1⟩ (by rw [eP, if_pos hb.1]) (by show x1 ≤ (numR t hi).1; omega) (by show (numR t hi).1 ≤ _; omega) u1 (k3.trans k4)
  · have hi2 : i = L.length := by simp at hge; omega
    subst hi2
    rw [List.drop_length] at hE
    have e2 : ivL hi L 1 = some acc := by rw [hE]; simp [ivL]
    rw [e2]
    exact ⟨⟨p1, c1, rfl, own_base ho k1.size⟩, k2⟩

end Go.Proofs.YtgmmoghagpmpfaaGreatDoor

/- Chapter 27: the contract of Remove. Names are not too long, the number is in range. -/
namespace Go.Proofs.YtgmmoghagpmpfaaGreatDoor
open Go.RowKit Go.Maps Go.Sort

theorem remI_snoc {l : List Iv} {i : Nat} {x : Iv} (h : l[i]? = some x) (n : Int) : remI (l.take (i + 1)) n = remI (l.take i) n ++ (if n < x.a ∨ x.b < n then [x] else keepI x.a (n - 1) ++ keepI (n + 1) x.b) := by
  rw [take_snoc h]
  unfold remI
  rw [List.flatMap_append]
  simp
section
variable {w : World} {B b mb : Nat} {m : TM} {A : TA}
set_option maxHeartbeats 2000000 in
theorem acremove_any (h : Tq w B b mb m A) (s : ByteArray) (hs : s.size ≤ 1073741824) (v : Int) (hv0 : -9223372036854775808 ≤ v ∧ v ≤ 9223372036854775807) :
    Calls Tryz.prog 33 #[.pointer (some ⟨b, 0, none⟩), .agg #[.string s, .int .i64 v]] w fun e w' => e = .returned (.int .i64 (rmA A s v).2) ∧ ∃ m', Ts w w' B b mb m (rmA A s v).1 m' := by
  refine vc_acremove b s v w _ (fun n W hW => ?_)
  have kW : K0 w W := hW.kk rfl
  have cn := hW.cells 0 rfl
  have gn : w.heap.size ≤ n := hW.fresh 0 rfl rfl
  unfold rmA
  cases hx : aget m s with
  | none =>
    refine ⟨(acfindN (h.k0 kW) s hs hx).mono fun e w1 ⟨he, k1⟩ => ⟨_, _, _, _, _, _, he, .of_k0 k1, fun n2 => ?_⟩⟩
    rw [h.getN hx]
    exact bsp_intro (fun _ W2 hW2 => ⟨rfl, m, h.same (hW2.k0 (kW.trans k1))⟩) (fun hb => by simp at hb)
  | some x =>
    refine ⟨(acfindS (h.k0 kW) s hs hx).mono fun e w1 ⟨he, k1⟩ => ⟨_, _, _, _, _, _, he, .of_k0 k1, fun n2 => ?_⟩⟩
    have k01 : K0 w w1 := kW.trans k1
    rw [h.getS hx]
    simp only
    obtain ⟨hiv, h0, hm, hel⟩ := h.ivOf hx
    have hll := h.lenOf hx
    refine bsp_intro (fun hb => by simp at hb) (fun _ W2 hW2 => ?_)
    have k2 : K0 w W2 := hW2.k0 k01
    have kk2 : K0 W W2 := k1.trans (hW2.kk rfl)
    have gn2 : w.heap.size ≤ n2 := Nat.le_trans k01.size (hW2.fresh 0 rfl rfl)
    refine ⟨(ahasg_any x.v.h x.v.c x.v.l x.p x.c v W2 ((h.rowOf hx).k0 k2) (by omega)).mono fun e w3 ⟨he, k3⟩ => ⟨_, he, .of_k0 k3, bsp_intro (fun hb => ?_) (fun hb n3 W3 hW3 => ?_)⟩⟩
    · have hb : hasI x.v.l v = false := by simpa using hb
      rw [hb, if_neg (by simp)]
      exact ⟨rfl, m, h.same (k2.trans k3)⟩
    have hb : hasI x.v.l v = true := by simpa using hb
    rw [if_pos hb]
    have k3' : K0 w w3 := k2.trans k3
    have kW3 : K0 w W3 := hW3.k0 k3'
    have kk3 : K0 W W3 := (kk2.trans k3).trans (hW3.kk rfl)
    have c3 := hW3.cells 0 rfl
    have gn3 : w3.heap.size ≤ n3 := hW3.fresh 0 rfl rfl
    have ln3 := block_lt c3
    have a1 := hW3.apart 0 1 rfl rfl (by decide)
    have a2 := hW3.apart 0 2 rfl rfl (by decide)
    have ln : n < W3.heap.size := Nat.lt_of_lt_of_le (block_lt cn) kk3.size
    have ln2 := block_lt (hW3.cells 1 rfl)
    simp only at ln3 a1 a2 ln2
    refine ⟨fun vs w' => ∃ (i : Nat) (acc : List Iv) (p : Option Addr) (c : Nat), vs = [.int .i64 (i : Int)] ∧ i ≤ x.v.l.length ∧ acc = remI (x.v.l.take i) v ∧ w'.heap[n3]? = some (.cells #[.slice p acc.length c] 92 (0, 0)) ∧ w'.ownsRow W3.heap.size 105 2 (.slice p acc.length c) acc.length (acc.flatMap ivC) ∧ K0 w w' ∧ Kp (fun k => k = n3) W3 w',
      fun vs _ => (match vs with | .int _ a :: _ => x.v.l.length - a.toNat | _ => 0), ⟨0, [], none, 0, rfl, by omega, rfl, c3, World.ownsRow_nil _ _ _ _, kW3, .refl _ _⟩, ?_⟩
    rintro q w4 ⟨i, acc, p, c, hv, hi, hacc, c4, ho4, k4, kk4⟩ hL4
    simp only [List.cons.injEq, Value.int.injEq, true_and, and_true] at hv
    subst hv
    have hal : acc.length ≤ 2 * i := by
      have := remI_len (x.v.l.take i) v
      rw [← hacc, List.length_take] at this
      omega
    refine bsp_intro (fun hlt => ?_) (fun hge => ?_)
    · have hlt : i < x.v.l.length := by simp at hlt; omega
      obtain ⟨z, zb, zo, hz, hzp, hzat⟩ := ((h.rowOf hx).k0 k4).get hlt
      have hzz := hiv.mem z (List.mem_of_getElem? hz)
      have hsn := remI_snoc hz v
      rw [← hacc] at hsn
      rw [Int.toNat_natCast]
      have hs3 : W3.heap.size ≤ w4.heap.size := kk4.size
      -- a call of the closure
      have keep : ∀ {W5 : World} {acc' : List Iv} {p' : Option Addr} {c' n4 : Nat} (u1 u2 : Int), W5.heap[n3]? = some (.cells #[.slice p' acc'.length c'] 92 (0, 0)) → W5.ownsRow W3.heap.size 105 2 (.slice p' acc'.length c') acc'.length (acc'.flatMap ivC) → K0 w W5 → Kp (fun k => k = n3) W3 W5 → acc'.length ≤ 4294967296 → n4 < W5.heap.size → w4.heap.size ≤ n4 → (∀ k, (Value.slice p' acc'.length c').ownBlock = some k → k ≠ n4) →
          Calls Tryz.prog 65 #[.int .i64 u1, .int .i64 u2, .pointer (some ⟨n3, 0, none⟩)] W5 fun e w6 => e = .returned (.tuple #[]) ∧ KeptL [n2, n, n4] W5 w6 ∧ ∃ p'' c'', w6.heap[n3]? = some (.cells #[.slice p'' (acc' ++ keepI u1 u2).length c''] 92 (0, 0)) ∧ w6.ownsRow W3.heap.size 105 2 (.slice p'' (acc' ++ keepI u1 u2).length c'') (acc' ++ keepI u1 u2).length ((acc' ++ keepI u1 u2).flatMap ivC) ∧ K0 w w6 ∧ Kp (fun k => k = n3) W3 w6 ∧ W5.heap.size ≤ w6.heap.size ∧ ∀ k, (Value.slice p'' (acc' ++ keepI u1 u2).length c'').ownBlock = some k → k ≠ n4 := by
        intro W5 acc' p' c' n4 u1 u2 c5 ho5 k5 kk5 hal5 hn4 hn4w hne
        refine (akeep_any u1 u2 n3 acc' p' c' W3.heap.size W5 c5 ho5 ln3 kk5.size hal5).mono fun e w6 ⟨he, ⟨p'', c'', c6, ho6, hf6⟩, k6⟩ => ⟨he, .of_kp k6 (fun k hk e => ?_), p'', c'', c6, ho6, k5.fresh k6 (fun j hj e => ?_), kk5.fresh k6 (fun j hj e => ?_), k6.size, fun k hk e => ?_⟩
        · simp only [List.mem_cons, List.not_mem_nil, or_false] at hk
          rcases hk with rfl | rfl | rfl
          · rcases e with e | e
            · exact a1 e.symm
            · have := own_ge ho5 e; omega
          · rcases e with e | e
            · exact a2 e.symm
            · have := own_ge ho5 e; omega
          · rcases e with e | e
            · omega
            · exact hne _ e rfl
        · have hw3 := kW3.size
          have hk3 := k3'.size
          rcases e with e | e
          · omega
          · have := own_ge ho5 e; omega
        · rcases e with e | e
          · exact e
          · have := own_ge ho5 e; omega
        · subst e
          rcases hf6 k hk with e2 | e2
          · exact hne k e2 rfl
          · omega
      refine nn_is hzp ⟨⟨by omega, by omega⟩, z.a, z.b, hzat, fun n4 => ⟨v, gimp_intro fun _ W5 hW5 => ?_, z.b, gimp_intro fun _ W5 hW5 => cell_at (hW5.cells 2 rfl) rfl, bsp_intro (fun hc W5 hW5 => ?_) (fun hc W5 hW5 => ?_)⟩⟩
      · exact cell_at ((hW5.kk rfl : K0 w4 W5).blk (hL4.cells 1 rfl) (fun h => h)) rfl
      · have hc : v < z.a ∨ z.b < v := by simpa using hc
        have k45 : K0 w4 W5 := hW5.kk rfl
        have g4 : w4.heap.size ≤ n4 := hW5.fresh 2 rfl rfl
        have l4 := block_lt (hW5.cells 2 rfl)
        simp only at l4
        refine ⟨65, #[], #[.pointer (some ⟨n3, 0, none⟩)], rfl, by kernel_rfl, ⟨(keep z.a z.b (k45.blk c4 (fun h => h)) (owns_kp ho4 k45 (fun _ _ h => h)) (k4.trans k45) (kk4.trans (k45.mono fun _ _ e => e.elim)) (by omega) l4 g4 (fun k hk e => by have := own_lt ho4 hk; omega)).mono fun e w6 ⟨he, hK, p'', c'', c6, ho6, k6, kk6, _, _⟩ => ⟨he, hK, ?_, ?_⟩⟩⟩
        · rw [inc64 (by omega)]
          have ek : keepI z.a z.b = [z] := by unfold keepI; rw [if_pos hzz.2.1]
          rw [ek] at c6 ho6
          exact ⟨i + 1, acc ++ [z], p'', c'', rfl, by omega, by rw [hsn, if_pos hc], c6, ho6, k6, kk6⟩
        · rw [inc64 (by omega)]; simp only [Int.toNat_natCast]; omega
      · have hc : ¬ (v < z.a ∨ z.b < v) := by
          intro e
          rcases e with e | e
          · simp [e] at hc
          · simp at hc; omega
        have k45 : K0 w4 W5 := hW5.kk rfl
        have g4 : w4.heap.size ≤ n4 := hW5.fresh 2 rfl rfl
        have l4 := block_lt (hW5.cells 2 rfl)
        simp only at l4
        rw [wr64 (x := v - 1) (by omega) (by omega), wr64 (x := v + 1) (by omega) (by omega)]
        refine ⟨65, #[], #[.pointer (some ⟨n3, 0, none⟩)], rfl, by kernel_rfl, ⟨(keep z.a (v - 1) (k45.blk c4 (fun h => h)) (owns_kp ho4 k45 (fun _ _ h => h)) (k4.trans k45) (kk4.trans (k45.mono fun _ _ e => e.elim)) (by omega) l4 g4 (fun k hk e => by have := own_lt ho4 hk; omega)).mono fun e w6 ⟨he, hK, p'', c'', c6, ho6, k6, kk6, s6, n6⟩ => ⟨he, hK, ?_⟩⟩⟩
        have hk1 : (keepI z.a (v - 1)).length ≤ 1 := by unfold keepI; split <;> simp
        refine ⟨65, #[], #[.pointer (some ⟨n3, 0, none⟩)], rfl, by kernel_rfl, ⟨(keep (v + 1) z.b c6 ho6 k6 kk6 (by rw [List.length_append]; omega) (by omega) g4 n6).mono fun e w7 ⟨he, hK, p'', c'', c7, ho7, k7, kk7, s7, n7⟩ => ⟨he, hK, ?_, ?_⟩⟩⟩
        · rw [inc64 (by omega)]
          exact ⟨i + 1, _, p'', c'', rfl, by omega, by rw [hsn, if_neg hc, List.append_assoc], c7, ho7, k7, kk7⟩
        · rw [inc64 (by omega)]; simp only [Int.toNat_natCast]; omega
    · have hi2 : i = x.v.l.length := by simp at hge; omega
      subst hi2
      rw [List.take_length] at hacc
      refine ⟨p, acc.length, c, cell_at c4 rfl, some mb, fun W5 hW5 => (h.k0 (hW5.k0 k4)).z.cM, fun W5 hW5 => ?_⟩
      have kW5 : K0 w W5 := hW5.k0 k4
      have ho5 : W5.ownsRow W3.heap.size 105 2 (.slice p acc.length c) acc.length (acc.flatMap ivC) := owns_kp ho4 hW5.kp (fun k hk ⟨y, hy, e1, e2⟩ => by
        have := own_ge ho4 hk
        simp only [List.mem_cons, List.not_mem_nil, or_false] at hy
        rcases hy with rfl | rfl
        · simp only at e2; omega
        · simp only at e2; omega)
      have hBW : B ≤ W3.heap.size := by
        have := h.z.gb
        have := block_lt h.z.st
        have := kW3.size
        omega
      have hown : Gx.own W5 B ⟨⟨x.v.h, x.v.c, acc⟩, p, c⟩ := own_base ho5 hBW
      obtain ⟨w6, hu, hT, k6⟩ := Ts.put (w := W5) h (x := ⟨⟨x.v.h, x.v.c, acc⟩, p, c⟩) hx (kW5.mono fun _ _ e => e.elim) hs hown (fun k (hk : (Value.slice p acc.length c).ownBlock = some k) => .inr (by have := own_ge ho5 hk; have := kW3.size; omega)) (h.wf.set (h.getS hx) (v := ⟨x.v.h, x.v.c, acc⟩) ⟨h0, hm⟩ (by rw [hacc]; exact remI_ok hiv))
      refine ⟨w6, hu, h.z.keptL k6 (fun k hk => ?_), rfl, aset m s ⟨⟨x.v.h, x.v.c, acc⟩, p, c⟩, ?_⟩
      · simp only [List.mem_cons, List.not_mem_nil, or_false] at hk
        rcases hk with rfl | rfl
        · exact gn2
        · exact gn
      · rw [← hacc]; exact hT
end

end Go.Proofs.YtgmmoghagpmpfaaGreatDoor

/- The formulas of functions by the symbolic evaluator, and that each gives the call's contract. Written by a program (gen.py). No condition. -/
namespace Go.Proofs.YtgmmoghagpmpfaaGreatDoor
set_option maxRecDepth 100000
set_option linter.unusedVariables false

def VC_acassign (b : Nat) (p : Option Addr) (n : Nat) (c : Nat) (w : World) (R : Ending → World → Prop) : Prop :=
 bsp ((some (Addr.mk b 0 none)).isNone || (↑n : Int) == 0)
 (R (Ending.returned (Value.tuple #[Value.slice none 0 0, Value.int IntKind.i64 1])) w)
 (∃ (I : List Value → World → Prop),
 ∃ (m : List Value → World → Nat),
 I [Value.int IntKind.i64 0] w ∧
 ∀ (x : Int) (w' : World),
 I [Value.int IntKind.i64 x] w' →
 bsp (decide (x < (↑n : Int)))
 (nn true p fun (b o : Nat) =>
 (0 ≤ x ∧ x < (↑n : Int)) ∧
 ∃ (x_1 : ByteArray),
 w'.cell? (Addr.mk b (o + x.toNat) none) = some (Value.string x_1) ∧
 (0 ≤ x ∧ x ≤ (↑c : Int)) ∧
 CallsS Tryz.prog 60 #[Value.slice p x.toNat c, Value.string x_1] w' fun (e : Ending) (w'_1 : World) =>
 ∃ (x_2 : Bool),
 e = Ending.returned (Value.bool x_2) ∧
 KeptL [] w' w'_1 ∧
 bsp x_2 (R (Ending.returned (Value.tuple #[Value.slice none 0 0, Value.int IntKind.i64 7])) w'_1)
 (I [Value.int IntKind.i64 (IntKind.i64.wrap (x + 1))] w'_1 ∧
 m [Value.int IntKind.i64 (IntKind.i64.wrap (x + 1))] w'_1 < m [Value.int IntKind.i64 x] w'))
 (∃ (I : List Value → World → Prop),
 ∃ (m : List Value → World → Nat),
 I [Value.int IntKind.i64 0, Value.int IntKind.i64 0] w' ∧
 ∀ (x x_1 : Int) (w' : World),
 I [Value.int IntKind.i64 x, Value.int IntKind.i64 x_1] w' →
 bsp (decide (x < (↑n : Int)))
 (nn true p fun (b_1 o : Nat) =>
 (0 ≤ x ∧ x < (↑n : Int)) ∧
 ∃ (x_2 : ByteArray),
 w'.cell? (Addr.mk b_1 (o + x.toNat) none) = some (Value.string x_2) ∧
 ∃ (x_3 : Option Nat),
 w'.cell? (Addr.mk b 0 none) = some (Value.map x_3) ∧
 ∃ (x_4 : Int),
 ∃ (x_5 : Bool),
 ∃ (p : Option Addr),
 ∃ (n : Nat),
 ∃ (c : Nat),
 ∃ (b : Bool),
 LookP Tryz.prog 97 (Value.map x_3) (Value.string x_2) true
 (Value.tuple
 #[Value.agg #[Value.int IntKind.i64 x_4, Value.bool x_5, Value.slice p n c], Value.bool b])
 w' ∧
 ∀ (n_1 : Nat),
 bsp (!b)
 (∀ (W : World),
 Loc w.heap.size
 [Blk.mk n_1 94 [Value.int IntKind.i64 x_4, Value.bool x_5, Value.slice p n c] (wrM 2)] w'
 W →
 R (Ending.returned (Value.tuple #[Value.slice none 0 0, Value.int IntKind.i64 8])) W)
 (bsp x_5
 (∀ (W : World),
 Loc w.heap.size
 [Blk.mk n_1 94 [Value.int IntKind.i64 x_4, Value.bool x_5, Value.slice p n c] (wrM 2)]
 w' W →
 R (Ending.returned (Value.tuple #[Value.slice none 0 0, Value.int IntKind.i64 10])) W)
 (bsp (decide (x_4 ≥ 2147483646))
 (∀ (W : World),
 Loc w.heap.size
 [Blk.mk n_1 94 [Value.int IntKind.i64 x_4, Value.bool x_5, Value.slice p n c] (wrM 2)]
 w' W →
 R (Ending.returned (Value.tuple #[Value.slice none 0 0, Value.int IntKind.i64 9])) W)
 (∀ (W : World),
 Loc w.heap.size
 [Blk.mk n_1 94 [Value.int IntKind.i64 x_4, Value.bool x_5, Value.slice p n c] (wrM 2)]
 w' W →
 I [Value.int IntKind.i64 (IntKind.i64.wrap (x + 1)), Value.int IntKind.i64 x_1] W ∧
 m [Value.int IntKind.i64 (IntKind.i64.wrap (x + 1)), Value.int IntKind.i64 x_1] W <
 m [Value.int IntKind.i64 x, Value.int IntKind.i64 x_1] w'))))
 (bsp (x_1 != 0) (R (Ending.returned (Value.tuple #[Value.slice none 0 0, Value.int IntKind.i64 x_1])) w')
 (∃ (I : List Value → World → Prop),
 ∃ (m : List Value → World → Nat),
 I [Value.int IntKind.i64 0, Value.slice none 0 0] w' ∧
 ∀ (x : Int) (p_1 : Option Addr) (n_1 c : Nat) (w' : World),
 I [Value.int IntKind.i64 x, Value.slice p_1 n_1 c] w' →
 bsp (decide (x < (↑n : Int)))
 (nn true p fun (b_1 o : Nat) =>
 (0 ≤ x ∧ x < (↑n : Int)) ∧
 ∃ (x_2 : ByteArray),
 w'.cell? (Addr.mk b_1 (o + x.toNat) none) = some (Value.string x_2) ∧
 ∃ (x_3 : Option Nat),
 w'.cell? (Addr.mk b 0 none) = some (Value.map x_3) ∧
 ∃ (x_4 : Int),
 ∃ (x_5 : Bool),
 ∃ (p : Option Addr),
 ∃ (n : Nat),
 ∃ (c_1 : Nat),
 LookP Tryz.prog 97 (Value.map x_3) (Value.string x_2) false
 (Value.agg #[Value.int IntKind.i64 x_4, Value.bool x_5, Value.slice p n c_1]) w' ∧
 ∀ (n_2 : Nat) (W : World),
 Loc w.heap.size
 [Blk.mk n_2 94
 [Value.int IntKind.i64 (IntKind.i64.wrap (x_4 + 1)), Value.bool x_5,
 Value.slice p n c_1]
 (wrM (wrM 2))]
 w' W →
 CallsS Tryz.prog 61
 #[Value.slice p n c_1, Value.int IntKind.i64 (IntKind.i64.wrap (x_4 + 1))] W
 fun (e : Ending) (w'_1 : World) =>
 ∃ (p : Option Addr),
 ∃ (n : Nat),
 ∃ (c_2 : Nat),
 e = Ending.returned (Value.slice p n c_2) ∧
 KeptL [n_2] W w'_1 ∧
 ∃ (x_6 : Option Nat),
 (∀ (W : World),
 Loc w.heap.size
 [Blk.mk n_2 94
 [Value.int IntKind.i64 (IntKind.i64.wrap (x_4 + 1)), Value.bool x_5,
 Value.slice p n c_2]
 (wrM 0)]
 w'_1 W →
 W.cell? (Addr.mk b 0 none) = some (Value.map x_6)) ∧
 ∀ (W : World),
 Loc w.heap.size
 [Blk.mk n_2 94
 [Value.int IntKind.i64 (IntKind.i64.wrap (x_4 + 1)), Value.bool x_5,
 Value.slice p n c_2]
 (wrM 0)]
 w'_1 W →
 ∃ (w1 : World),
 UpdP Tryz.prog 97 (Value.map x_6) (Value.string x_2)
 (Value.agg
 #[Value.int IntKind.i64 (IntKind.i64.wrap (x_4 + 1)), Value.bool x_5,
 Value.slice p n c_2])
 W w1 ∧
 KeptL [n_2] W w1 ∧
 ∀ (n_3 : Nat) (W : World),
 Loc w.heap.size
 [Blk.mk n_3 64
 [Value.string x_2,
 Value.int IntKind.i64 (IntKind.i64.wrap (x_4 + 1))]
 2,
 Blk.mk n_2 94
 [Value.int IntKind.i64 (IntKind.i64.wrap (x_4 + 1)), Value.bool x_5,
 Value.slice p n c_2]
 0]
 w1 W →
 ∃ (base : Nat),
 ∃ (xs : List Value),
 W.ownsRow base 64 2 (Value.slice p_1 n_1 c) n_1 xs ∧
 n_1 + 1 ≤ 9223372036854775807 ∧
 (n_1 + 1) * 24 ≤ 140737488355328 ∧
 base ≤ W.heap.size ∧
 ∀ (p' : Option Addr) (c' : Nat) (w'_2 : World),
 w'_2.ownsRow base 64 2 (Value.slice p' (n_1 + 1) c') (n_1 + 1)
 (xs ++
 [Value.string x_2,
 Value.int IntKind.i64 (IntKind.i64.wrap (x_4 + 1))]) →
 W.grownBy w'_2 (Value.slice p_1 n_1 c).ownBlock →
 AppL W p_1 n_1 c 1 p' c' →
 KeptL [n_2] W w'_2 ∧
 I
 [Value.int IntKind.i64 (IntKind.i64.wrap (x + 1)),
 Value.slice p' (n_1 + 1) c']
 w'_2 ∧
 m
 [Value.int IntKind.i64 (IntKind.i64.wrap (x + 1)),
 Value.slice p' (n_1 + 1) c']
 w'_2 <
 m [Value.int IntKind.i64 x, Value.slice p_1 n_1 c] w')
 (R (Ending.returned (Value.tuple #[Value.slice p_1 n_1 c, Value.int IntKind.i64 0])) w')))))
theorem vc_acassign (b : Nat) (p : Option Addr) (n : Nat) (c : Nat) (w : World) (R : Ending → World → Prop) (h : VC_acassign b p n c w R) : Calls Tryz.prog 27 ([Value.pointer
    (some { block := b, off := 0 }),
  Value.slice p n c] : List Value).toArray w R := by
  have e : execR2 { P := Tryz.prog, loops := [(4, [(26, Ck.int IntKind.i64)]), (11, [(39, Ck.int IntKind.i64), (8, Ck.int IntKind.i64)]), (25, [(68, Ck.int IntKind.i64), (13, Ck.slice)])], pur := pur1, tails := [(30, 6)], joins := [], boxes := [] } Tryz.f27.results.toList R (Tryz.f27.body.getD .skip) (initF [Value.pointer
    (some { block := b, off := 0 }),
  Value.slice p n
    c] (Tryz.f27.ntmps - ([Value.pointer (some { block := b, off := 0 }),
  Value.slice p n c] : List Value).length)) w = VC_acassign b p n c w R := by kernel_rfl
  have hb : Tryz.f27.body = some (Tryz.f27.body.getD .skip) := by kernel_rfl
  exact calls_of_exec2' (P := Tryz.prog) (fn := Tryz.f27) (c := Tryz.f27.body.getD .skip) (args := [Value.pointer
    (some { block := b, off := 0 }),
  Value.slice p n c]) (w := w) (R := R) pur1_ok Tryz.func27 hb e h

end Go.Proofs.YtgmmoghagpmpfaaGreatDoor

/- Chapter 27: the contract of Assign. Names are not too long and lie in a row of texts. -/
namespace Go.Proofs.YtgmmoghagpmpfaaGreatDoor
open Go.RowKit Go.Maps Go.Sort

theorem scont27_any (l : List ByteArray) (p : Option Addr) (i c : Nat) (x : ByteArray) (w : World) (hS : StrP w p l) (hi : i ≤ l.length) (hl : l.length ≤ 4611686018427387904) :
    Calls Tryz.prog 60 #[.slice p i c, .string x] w fun e w' => e = .returned (.bool (Lib.containsS (l.take i) x)) ∧ w' = w := by
  rcases Nat.eq_zero_or_pos i with h0 | h0
  · subst h0
    exact (Tryz.slices_Contains_string_empty p c x w).mono fun e w' ⟨he, hw⟩ => ⟨by rw [he, List.take_zero]; rfl, hw⟩
  · obtain ⟨y, b, o, hy, hp, hc⟩ := hS.get (k := 0) (by omega)
    subst hp
    refine (Tryz.slices_Contains_string b o i c l x w hi (by omega) (fun j hj => ?_)).mono fun e w' ⟨he, hw⟩ => ⟨?_, hw⟩
    · obtain ⟨z, b', o', hz, hp', hc'⟩ := hS.get hj
      cases hp'
      rw [hc', List.getD_eq_getElem?_getD, hz]; rfl
    · exact he
/-- A place. -/
def plC (x : ByteArray × Int) : List Value := [.string x.1, .int .i64 x.2]
theorem plC_length (x : ByteArray × Int) : (plC x).length = 2 := rfl
section
variable {w : World} {B b mb : Nat} {m : TM} {A : TA}
set_option maxHeartbeats 2000000 in
theorem acassign_any (h : Tq w B b mb m A) (l : List ByteArray) (p : Option Addr) (c : Nat) (hS : StrP w p l) (hT : TyN 9 w p) (hl : l.length ≤ 1000) (hlc : l.length ≤ c) (hz : ∀ s ∈ l, s.size ≤ 1073741824) :
    Calls Tryz.prog 27 #[.pointer (some ⟨b, 0, none⟩), .slice p l.length c] w fun e w' =>
      (∃ p' c', e = .returned (.tuple #[.slice p' (l.zip (asR A l).2.1).length c', .int .i64 (asR A l).2.2]) ∧ RowA plC 2 w' p' (l.zip (asR A l).2.1) ∧ TyN 64 w' p') ∧ ∃ m', Ts w w' B b mb m (asR A l).1 m' := by
  unfold asR
  refine vc_acassign b p l.length c w _ (bsp_intro (fun h0 => ?_) (fun h0 => ?_))
  · have h0 : l.length = 0 := by simp at h0; simp [h0]
    rw [if_pos h0]
    have : l = [] := List.eq_nil_of_length_eq_zero h0
    subst this
    exact ⟨⟨none, 0, rfl, RowA.nil, TyN.none⟩, m, h.same (.refl _ _)⟩
  have h0 : ¬ l.length = 0 := by intro e; rw [e] at h0; simp at h0
  rw [if_neg h0]
  have hSk : ∀ {w' : World} {M : Nat → Prop}, Kp M w w' → (∀ k c f, w.heap[k]? = some (.cells c 9 f) → ¬ M k) → StrP w' p l := fun hk hm => hS.kp hk (fun b o e => by
    obtain ⟨c, f, hc⟩ := hT b o e
    exact hm b c f hc)
  refine ⟨fun vs w' => ∃ i : Nat, vs = [.int .i64 (i : Int)] ∧ i ≤ l.length ∧ (l.take i).Nodup ∧ w' = w, fun vs _ => (match vs with | .int _ a :: _ => l.length - a.toNat | _ => 0), ⟨0, rfl, by omega, List.nodup_nil, rfl⟩, ?_⟩
  rintro x w1 ⟨i, hv, hi, hnd, rfl⟩
  simp only [List.cons.injEq, Value.int.injEq, true_and, and_true] at hv
  subst hv
  refine bsp_intro (fun hlt => ?_) (fun hge => ?_)
  · have hlt : i < l.length := by simp at hlt; omega
    obtain ⟨s, sb, so, hs, hp, hc⟩ := hS.get hlt
    rw [Int.toNat_natCast]
    refine nn_is hp ⟨⟨by omega, by omega⟩, s, hc, ⟨by omega, by omega⟩, ⟨(scont27_any l p i c s w1 hS (by omega) (by omega)).mono fun e w2 ⟨he, hw⟩ => ⟨_, he, by rw [hw]; exact .refl _ _, ?_⟩⟩⟩
    subst hw
    have htk := take_snoc hs
    refine bsp_intro (fun hb => ?_) (fun hb => ?_)
    · have hb : s ∈ l.take i := (Lib.containsS_iff _ _).1 hb
      have hnn : ¬ l.Nodup := fun hn => by
        have h2 : (l.take (i + 1)).Nodup := hn.sublist (List.take_sublist _ _)
        rw [htk, List.nodup_append] at h2
        exact h2.2.2 s hb s (List.mem_singleton.2 rfl) rfl
      rw [if_pos hnn]
      exact ⟨⟨none, 0, by rw [List.zip_nil_right]; rfl, by rw [List.zip_nil_right]; exact RowA.nil, TyN.none⟩, m, h.same (.refl _ _)⟩
    · have hb : s ∉ l.take i := fun hm => by rw [(Lib.containsS_iff _ _).2 hm] at hb; cases hb
      rw [inc64 (by omega)]
      refine ⟨⟨i + 1, rfl, hlt, ?_, rfl⟩, by simp only [Int.toNat_natCast]; omega⟩
      rw [htk, List.nodup_append]
      exact ⟨hnd, by simp, fun a ha c hc e => by rw [List.mem_singleton.1 hc] at e; subst e; exact hb ha⟩
  have hi2 : i = l.length := by simp at hge; omega
  subst hi2
  rw [List.take_length] at hnd
  rw [if_neg (by simpa using hnd)]
  refine ⟨fun vs w' => ∃ i : Nat, vs = [.int .i64 (i : Int), .int .i64 0] ∧ i ≤ l.length ∧ asE A (l.take i) = 0 ∧ K0 w1 w', fun vs _ => (match vs with | .int _ a :: _ => l.length - a.toNat | _ => 0), ⟨0, rfl, by omega, rfl, .refl _ _⟩, ?_⟩
  rintro x x1 w2 ⟨i, hv, hi, hE, k2⟩
  simp only [List.cons.injEq, Value.int.injEq, true_and, and_true] at hv
  obtain ⟨rfl, rfl⟩ := hv
  refine bsp_intro (fun hlt => ?_) (fun hge => ?_)
  · have hlt : i < l.length := by simp at hlt; omega
    obtain ⟨s, sb, so, hs, hp, hc⟩ := (hS.k0 k2).get hlt
    have hsz := hz s (List.mem_of_getElem? hs)
    have htk := take_snoc hs
    have h2 := h.k0 k2
    have hsn := asE_snoc (A := A) (s := s) hE
    rw [← htk] at hsn
    have herr : ∀ er : Int, er ≠ 0 → asE A (l.take (i + 1)) = er → asE A l = er := fun er h1 h2 => by
      have := asE_app (A := A) (r := l.take (i + 1)) (q := l.drop (i + 1)) (by rw [h2]; exact h1)
      rw [List.take_append_drop, h2] at this
      exact this
    have fin : ∀ (er : Int) {w' : World}, er ≠ 0 → asE A (l.take (i + 1)) = er → K0 w1 w' → (∃ p' c', Ending.returned (Value.tuple #[.slice none 0 0, .int .i64 er]) = .returned (.tuple #[.slice p' (l.zip (if asE A l ≠ 0 then ((A, [], asE A l) : TA × List Int × Int) else (asS A l, asN A l, 0)).2.1).length c', .int .i64 (if asE A l ≠ 0 then ((A, [], asE A l) : TA × List Int × Int) else (asS A l, asN A l, 0)).2.2]) ∧ RowA plC 2 w' p' (l.zip (if asE A l ≠ 0 then ((A, [], asE A l) : TA × List Int × Int) else (asS A l, asN A l, 0)).2.1) ∧ TyN 64 w' p') ∧ ∃ m', Ts w1 w' B b mb m (if asE A l ≠ 0 then ((A, [], asE A l) : TA × List Int × Int) else (asS A l, asN A l, 0)).1 m' := fun er w' h1 h2 hk => by
      have he := herr er h1 h2
      rw [if_pos (by rw [he]; exact h1), he]
      exact ⟨⟨none, 0, by rw [List.zip_nil_right]; rfl, by rw [List.zip_nil_right]; exact RowA.nil, TyN.none⟩, m, h.same hk⟩
    rw [Int.toNat_natCast]
    cases hx : aget m s with
    | none =>
      rw [h.getN hx] at hsn
      refine nn_is hp ⟨⟨by omega, by omega⟩, s, hc, some mb, h2.z.cM, _, _, _, _, _, _, h2.z.look1 hsz, fun n1 => bsp_intro (fun _ W hW => ?_) (fun hb => by rw [hx] at hb; simp at hb)⟩
      exact fin 8 (by decide) hsn (k2.trans (hW.kk rfl))
    | some y =>
      rw [h.getS hx] at hsn
      simp only at hsn
      have hlk := h2.z.look1 hsz
      rw [hx] at hlk
      refine nn_is hp ⟨⟨by omega, by omega⟩, s, hc, some mb, h2.z.cM, _, _, _, _, _, _, hlk, fun n1 => bsp_intro (fun hb => by simp at hb) (fun _ => bsp_intro (fun hb W hW => ?_) (fun hb => bsp_intro (fun hc2 W hW => ?_) (fun hc2 W hW => ?_)))⟩
      · have hb : y.v.c = true := hb
        rw [if_pos hb] at hsn
        exact fin 10 (by decide) hsn (k2.trans (hW.kk rfl))
      · have hb : ¬ y.v.c = true := by simpa using hb
        have hc2 : 2147483646 ≤ y.v.h := by simpa using hc2
        rw [if_neg hb, if_pos hc2] at hsn
        exact fin 9 (by decide) hsn (k2.trans (hW.kk rfl))
      · have hb : ¬ y.v.c = true := by simpa using hb
        have hc2 : ¬ 2147483646 ≤ y.v.h := by simpa using hc2
        rw [if_neg hb, if_neg hc2] at hsn
        rw [inc64 (by omega)]
        exact ⟨⟨i + 1, rfl, hlt, hsn, k2.trans (hW.kk rfl)⟩, by simp only [Int.toNat_natCast]; omega⟩
  have hi2 : i = l.length := by simp at hge; omega
  subst hi2
  rw [List.take_length] at hE
  rw [if_neg (by rw [hE]; simp)]
  refine bsp_intro (fun hb => by simp at hb) (fun _ => ?_)
  refine ⟨fun vs w' => ∃ (i : Nat) (p' : Option Addr) (c' : Nat) (m' : TM), vs = [.int .i64 (i : Int), .slice p' i c'] ∧ i ≤ l.length ∧ w'.ownsRow w2.heap.size 64 2 (.slice p' i c') i (((l.take i).zip (asN A (l.take i))).flatMap plC) ∧ Ts w1 w' B b mb m (asS A (l.take i)) m' ∧ w2.heap.size ≤ w'.heap.size,
    fun vs _ => (match vs with | .int _ a :: _ => l.length - a.toNat | _ => 0), ⟨0, none, 0, m, rfl, by omega, World.ownsRow_nil _ _ _ _, h.same k2, Nat.le_refl _⟩, ?_⟩
  rintro x p1 n1 c1 w3 ⟨i, p', c', m', hv, hi, ho3, hT3, hs3⟩
  simp only [List.cons.injEq, Value.int.injEq, Value.slice.injEq, true_and, and_true] at hv
  obtain ⟨rfl, rfl, rfl, rfl⟩ := hv
  have hlen : ((l.take n1).zip (asN A (l.take n1))).length = n1 := by
    rw [List.length_zip, asN_len (hnd.sublist (List.take_sublist _ _)) (asE_take hE n1), List.length_take]; omega
  refine bsp_intro (fun hlt => ?_) (fun hge => ?_)
  · have hlt : n1 < l.length := by simp at hlt; omega
    obtain ⟨s, sb, so, hs, hp, hc⟩ := (hSk hT3.k (fun k c f hc => h.z.not_ty hc (by decide))).get hlt
    have hsz := hz s (List.mem_of_getElem? hs)
    have htk := take_snoc hs
    have hnd1 : (l.take n1).Nodup := hnd.sublist (List.take_sublist _ _)
    have hnd2 : (l.take (n1 + 1)).Nodup := hnd.sublist (List.take_sublist _ _)
    have hns : s ∉ l.take n1 := fun hm => by
      rw [htk, List.nodup_append] at hnd2
      exact hnd2.2.2 s hm s (List.mem_singleton.2 rfl) rfl
    obtain ⟨v, g1, g2, g3, _, _⟩ := asS_at hnd hE hs
    have hgv : aget (asS A (l.take n1)) s = some v := by rw [asS_get hns]; exact g1
    have hgm := hT3.t.get s
    rw [hgv] at hgm
    cases hy : aget m' s with
    | none => rw [hy] at hgm; cases hgm
    | some y =>
      rw [hy] at hgm
      have hyv : v = y.v := by cases hgm; rfl
      subst hyv
      obtain ⟨_, a1, a2, a3⟩ := h.wf.get g1
      have hlk : LookP Tryz.prog 97 (.map (some mb)) (.string s) false (gxV y) w3 := by
        have := hT3.t.z.look0 hsz
        rw [hy] at this
        exact this
      have e1 : IntKind.i64.wrap (y.v.h + 1) = y.v.h + 1 := wr64 (by omega) (by omega)
      have hyl := hT3.t.lenOf hy
      rw [Int.toNat_natCast]
      refine nn_is hp ⟨⟨by omega, by omega⟩, s, hc, some mb, hT3.t.z.cM, y.v.h, y.v.c, y.p, y.v.l.length, y.c, hlk, ?_⟩
      rw [e1]
      intro n2 W4 hW4
      have k4 : K0 w3 W4 := hW4.kk rfl
      have gn2 : w3.heap.size ≤ n2 := hW4.fresh 0 rfl rfl
      have cn2 := hW4.cells 0 rfl
      have hBW : B ≤ W4.heap.size := by
        have := (hT3.t.k0 k4).z.gb
        have := block_lt (hT3.t.k0 k4).z.st
        omega
      have hoy : y.own W4 B := (hT3.t.z.own s y hy (fun h => h)).kp k4 (fun _ _ h => h)
      refine ⟨(awith_any y.v.l y.p y.c (y.v.h + 1) W4 hoy hBW (by omega) (by omega)).mono fun e w5 ⟨p5, c5, he, ho5, k5, hf5⟩ => ⟨_, _, _, he, .of_kp k5 (fun k hk e => ?_), some mb, fun W6 hW6 => ?_, fun W6 hW6 => ?_⟩⟩
      · simp only [List.mem_cons, List.not_mem_nil, or_false] at hk
        subst hk
        exact own_not hoy cn2 rfl e
      · have st5 : w5.heap[b]? = _ := k5.blk (k4.blk hT3.t.z.st (fun h => h)) (fun e => (hT3.t.z.nm s y b hy e).2.1 rfl)
        exact cell_at (hW6.kp.blk st5 (fun ⟨z, hz, _, e2⟩ => by
          simp only [List.mem_cons, List.not_mem_nil, or_false] at hz
          subst hz
          have := block_lt hT3.t.z.st
          simp only at e2
          omega)) rfl
      · have hn2 : ∀ k, (∃ z ∈ [Blk.mk n2 94 [.int .i64 (y.v.h + 1), .bool y.v.c, .slice p5 (withI y.v.l (y.v.h + 1)).length c5] (wrM 0)], z.m = 1 ∧ z.n = k) → k = n2 := fun k ⟨z, hz, _, e2⟩ => by
          simp only [List.mem_cons, List.not_mem_nil, or_false] at hz
          subst hz
          exact e2.symm
        have k36 : Kp (fun k => y.blk = some k) w3 W6 := ((k4.mono fun _ _ e => e.elim).trans k5).fresh hW6.kp (fun j hj e => by have := hn2 j e; omega)
        have c52 := k5.blk cn2 (fun e => own_not hoy cn2 rfl e)
        have ho6 : Gx.own W6 B ⟨nxG y.v, p5, c5⟩ := owns_kp ho5 hW6.kp (fun k hk e => by
          have := hn2 k e
          subst this
          exact own_not ho5 c52 rfl hk)
        obtain ⟨w7, hu, hT7, k7⟩ := Ts.put (w := W6) hT3.t (x := ⟨nxG y.v, p5, c5⟩) hy k36 hsz ho6 (fun k (hk : (Value.slice p5 (withI y.v.l (y.v.h + 1)).length c5).ownBlock = some k) => by
          rcases hf5 k hk with e | e
          · exact .inl e
          · exact .inr (by have := k4.size; omega)) (hT3.t.wf.nx hgv g3)
        refine ⟨w7, hu, hT3.t.z.keptL k7 (fun k hk => by simp only [List.mem_cons, List.not_mem_nil, or_false] at hk; rw [hk]; exact gn2), fun n3 W8 hW8 => ?_⟩
        have k8 : K0 w7 W8 := hW8.kk rfl
        have ho7 := owns_kp ho3 hT7.k (fun k hk e => by
          obtain ⟨cc, hcc⟩ := own_type ho3 hk
          exact hT3.t.z.not_ty hcc (by decide) e)
        have ho8 := owns_kp ho7 k8 (fun _ _ h => h)
        have hs8 : w2.heap.size ≤ W8.heap.size := Nat.le_trans hs3 (Nat.le_trans hT7.k.size k8.size)
        refine ⟨_, _, ho8, by omega, by omega, hs8, fun p9 c9 w9 ho9 hg9 _ => ⟨.of_kp (kp_grown hg9) (fun k hk e => ?_), ⟨n1 + 1, p9, c9, aset m' s ⟨nxG y.v, p5, c5⟩, by rw [inc64 (by omega)], hlt, ?_, ?_, Nat.le_trans hs8 hg9.size⟩, by rw [inc64 (by omega)]; simp only [Int.toNat_natCast]; omega⟩⟩
        · simp only [List.mem_cons, List.not_mem_nil, or_false] at hk
          subst hk
          exact own_not ho8 (hW8.cells 1 rfl) rfl e
        · have ez : (l.take (n1 + 1)).zip (asN A (l.take (n1 + 1))) = (l.take n1).zip (asN A (l.take n1)) ++ [(s, y.v.h + 1)] := by
            rw [htk, asN_snoc hnd1 (asE_take hE n1) hgv, List.zip_append (by rw [asN_len hnd1 (asE_take hE n1)])]
            rfl
          rw [ez, List.flatMap_append]
          exact ho9
        · rw [htk, asS_snoc hnd1 (asE_take hE n1) hgv]
          refine ((hT3.trans hT7).k0 k8).kpf (kp_grown hg9) (fun k hk => ?_) (fun e => ?_) (fun k hk e => ?_)
          · have := own_ge ho8 hk; have := k2.size; omega
          · exact own_not ho8 ((hT7.t.k0 k8).z.st) rfl e
          · obtain ⟨cc, hcc⟩ := own_type ho8 e
            exact (hT7.t.k0 k8).z.not_ty hcc (by decide) hk
  · have hi2 : n1 = l.length := by simp at hge; omega
    subst hi2
    rw [List.take_length] at ho3 hT3 hlen
    have hr : RowA plC 2 w3 p1 (l.zip (asN A l)) := RowA.own ho3 plC_length (by decide)
    exact ⟨⟨p1, c1, by rw [hlen], hr, TyN.own ho3⟩, m', hT3⟩
end

end Go.Proofs.YtgmmoghagpmpfaaGreatDoor

/- Chapter 27: the contract of parseLine. Texts are not too long; the library's variable MaxLen holds a number. -/
namespace Go.Proofs.YtgmmoghagpmpfaaGreatDoor
open Go.RowKit Go.Maps Go.Sort

theorem yB (c : ByteArray) (d : UInt8) : (c.toList == [(ByteArray.mk #[d]).get! 0]) = decide (c = ⟨#[d]⟩) := by
  have : [(ByteArray.mk #[d]).get! 0] = (⟨#[d]⟩ : ByteArray).toList := by rw [ByteArray.toList_eq]; rfl
  rw [this, str_beq]
theorem emB (c : ByteArray) : (c.toList == []) = decide (c.size = 0) := by
  rw [ByteArray.toList_eq, Bool.eq_iff_iff]
  simp only [beq_iff_eq, decide_eq_true_eq]
  constructor
  · intro h
    have := congrArg List.length h
    simpa using this
  · intro h
    exact List.eq_nil_of_length_eq_zero (by simpa using h)
theorem size0_eq {c : ByteArray} (h : c.size = 0) : c = ⟨#[]⟩ := by
  apply ByteArray.ext
  exact Array.eq_empty_of_size_eq_zero h
theorem lineA_other {s bf : ByteArray} (h : (partsC 32 s).length < 3 ∨ 4 < (partsC 32 s).length) : lineA s bf = .inr 3 := by
  unfold lineA
  split
  · rename_i a b c hp; rw [hp] at h; simp at h
  · rename_i a b c d hp; rw [hp] at h; simp at h
  · rfl
theorem lineA_empty {s bf : ByteArray} (h : ⟨#[]⟩ ∈ partsC 32 s) : lineA s bf = .inr 3 := by
  unfold lineA
  split
  · rename_i a b c hp
    rw [hp] at h
    rw [if_pos]
    simp only [List.mem_cons, List.not_mem_nil, or_false] at h
    rcases h with h | h | h
    · exact .inl (by rw [← h]; rfl)
    · exact .inr (.inl (by rw [← h]; rfl))
    · exact .inr (.inr (by rw [← h]; rfl))
  · rename_i a b c d hp
    rw [hp] at h
    rw [if_pos]
    simp only [List.mem_cons, List.not_mem_nil, or_false] at h
    rcases h with h | h | h | h
    · exact .inl (by rw [← h]; rfl)
    · exact .inr (.inl (by rw [← h]; rfl))
    · exact .inr (.inr (.inl (by rw [← h]; rfl)))
    · exact .inr (.inr (.inr (by rw [← h]; rfl)))
  · rfl
/-- The words of a line, none of them empty. -/
theorem lineA_words {s bf : ByteArray} (h3 : ¬ (partsC 32 s).length < 3) (h4 : ¬ 4 < (partsC 32 s).length) (h : ⟨#[]⟩ ∉ partsC 32 s) : ∃ (a b c : ByteArray) (d : Option ByteArray), partsC 32 s = [a, b, c] ++ d.toList ∧ lineA s bf = lineW a b c d bf := by
  have hz : ∀ x ∈ partsC 32 s, x.size ≠ 0 := fun x hx e => h (by rw [← size0_eq e]; exact hx)
  unfold lineA
  split
  · rename_i a b c hp
    rw [hp] at hz
    refine ⟨a, b, c, none, by rw [hp]; rfl, ?_⟩
    rw [if_neg]
    rintro (e | e | e)
    · exact hz a (by simp) e
    · exact hz b (by simp) e
    · exact hz c (by simp) e
  · rename_i a b c d hp
    rw [hp] at hz
    refine ⟨a, b, c, some d, by rw [hp]; rfl, ?_⟩
    rw [if_neg]
    rintro (e | e | e | e)
    · exact hz a (by simp) e
    · exact hz b (by simp) e
    · exact hz c (by simp) e
    · exact hz d (by simp) e
  · rename_i hn1 hn2
    exfalso
    match hl : partsC 32 s, h3, h4 with
    | [], h3, _ => simp at h3
    | [_], h3, _ => simp at h3
    | [_, _], h3, _ => simp at h3
    | [a, b, c], _, _ => exact hn1 a b c hl
    | [a, b, c, d], _, _ => exact hn2 a b c d hl
    | _ :: _ :: _ :: _ :: _ :: _, _, h4 => simp at h4
/-- What parseLine answers. -/
def PLn (w : World) (s bf : ByteArray) (e : Ending) (w' : World) : Prop := (match lineA s bf with
  | .inl g => ∃ p c, e = .returned (.tuple #[.string g.1, .agg #[.int .i64 g.2.h, .bool g.2.c, .slice p g.2.l.length c], .int .i64 0]) ∧ w'.ownsRow w.heap.size 105 2 (.slice p g.2.l.length c) g.2.l.length (g.2.l.flatMap ivC)
  | .inr er => er ≠ 0 ∧ e = .returned (.tuple #[.string ⟨#[]⟩, .agg #[.int .i64 0, .bool false, .slice none 0 0], .int .i64 er])) ∧ K0 w w'
set_option maxHeartbeats 4000000 in
theorem acpline_any (s bf : ByteArray) (w : World) (hs : s.size ≤ 1048576) (hb : bf.size ≤ 1048576) (hG : GW w) :
    Calls Tryz.prog 43 #[.string s, .string bf] w (PLn w s bf) := by
  refine vc_acpline s bf w _ (fun n W hW => ?_)
  have kW : K0 w W := hW.kk rfl
  have gn : w.heap.size ≤ n := hW.fresh 0 rfl rfl
  have cn := hW.cells 0 rfl
  have fail : ∀ {er : Int} {w' : World}, K0 w w' → lineA s bf = .inr er → er ≠ 0 → PLn w s bf (.returned (.tuple #[.string ⟨#[]⟩, .agg #[.int .i64 0, .bool false, .slice none 0 0], .int .i64 er])) w' := fun k e h => by
    unfold PLn; rw [e]; exact ⟨⟨h, rfl⟩, k⟩
  have kk : ∀ {t : TypeId} {cs : List Value} {mm : Nat} {w1 W1 : World}, K0 w w1 → Loc w.heap.size [Blk.mk n t cs mm] w1 W1 → K0 w W1 := fun k hW1 => hW1.k0 k
  refine ⟨(split27_any 32 s W (by omega) (gk0 hG kW)).mono fun e w1 ⟨⟨p, he, hS⟩, k1⟩ => ⟨_, _, _, he, .of_k0 k1, ?_⟩⟩
  have hps := parts_size 32 s
  have hpl := parts_len 32 s
  have k01 := kW.trans k1
  refine bsp_intro (fun h0 => ?_) (fun h0 => ⟨.refl _ _, fun W2 hW2 => fail (kk k01 hW2) (lineA_other (by simp at h0; omega)) (by decide)⟩)
  have h3 : ¬ (partsC 32 s).length < 3 := by simp at h0; omega
  have h4 : ¬ 4 < (partsC 32 s).length := by simp at h0; omega
  have hco := scont27_any (partsC 32 s) p (partsC 32 s).length (partsC 32 s).length ⟨#[]⟩ w1 hS (Nat.le_refl _) (by omega)
  rw [List.take_length] at hco
  refine ⟨hco.mono fun e w2 ⟨he, hw⟩ => ⟨_, he, by rw [hw]; exact .refl _ _, ?_⟩⟩
  subst hw
  refine bsp_intro (fun hx W2 hW2 => ?_) (fun hx => ?_)
  · have hx : ⟨#[]⟩ ∈ partsC 32 s := (Lib.containsS_iff _ _).1 (by simpa using hx)
    exact fail (kk k01 hW2) (lineA_empty hx) (by decide)
  have hx : ⟨#[]⟩ ∉ partsC 32 s := fun hm => by rw [(Lib.containsS_iff _ _).2 hm] at hx; simp at hx
  obtain ⟨a, b, c, d, hp, hlin⟩ := lineA_words (bf := bf) h3 h4 hx
  rw [hp] at hS hps ⊢
  have ha : a.size ≤ 1048576 := by have := hps a (by simp); omega
  have hbz : b.size ≤ 1048576 := by have := hps b (by simp); omega
  have hlen : ([a, b, c] ++ d.toList).length = 3 + d.toList.length := by simp; omega
  obtain ⟨x0, pb, po, hx0, hpp, hc0⟩ := hS.get (k := 0) (by simp)
  have e0 : x0 = a := by simp at hx0; exact hx0.symm
  subst e0
  have cell : ∀ {wx : World} {j : Nat} {z : ByteArray}, K0 w2 wx → ([x0, b, c] ++ d.toList)[j]? = some z → wx.cell? ⟨pb, po + j, none⟩ = some (.string z) := fun k hj => by
    obtain ⟨z', pb', po', hz', hp', hc'⟩ := hS.get (List.getElem?_eq_some_iff.1 hj).1
    rw [hj] at hz'
    cases hz'
    rw [hpp] at hp'
    cases hp'
    exact k.cell' hc' (fun h => h)
  refine nn_is hpp ⟨⟨by omega, by rw [hlen]; omega⟩, x0, by simpa using hc0, ⟨(gcheck_any x0 w2 (gk0 hG k01)).mono fun e w3 ⟨he, k3⟩ => ⟨_, he, .of_k0 k3, bsp_intro (fun hg W2 hW2 => ?_) (fun hg => ?_)⟩⟩⟩
  · have hg : gnE x0 ≠ 0 := by simpa using hg
    exact fail (kk (k01.trans k3) hW2) (by rw [hlin]; unfold lineW; rw [if_pos hg]) hg
  have hg : gnE x0 = 0 := by simpa using hg
  have k03 := k01.trans k3
  have kw3 : K0 w2 w3 := k3
  have hxs := name_size hg
  have hord : (bf.size ≠ 0 ∧ 0 ≤ gnC bf x0) ∨ ¬ (bf.size ≠ 0 ∧ 0 ≤ gnC bf x0) := Classical.em _
  rw [emB]
  refine bsp_intro (fun ht => ⟨(gncmp1_any bf x0 w3 (by omega) (by omega) (gk0 hG k03)).mono fun e wx ⟨he, kx', _⟩ => ⟨_, he, .of_k0 kx', bsp_intro (fun h30 W2 hW2 => ?_) (fun h30 => ?_)⟩⟩) (fun ht => ⟨.refl _ _, ?_⟩)
  · have ht : bf.size ≠ 0 := by simpa using ht
    have h30 : 0 ≤ gnC bf x0 := by simpa using h30
    exact fail (kk (k03.trans kx') hW2) (by rw [hlin]; unfold lineW; rw [if_neg (by simpa using hg), if_pos ⟨ht, h30⟩]) (by decide)
  rotate_left
  · obtain ⟨wx, hwx⟩ : ∃ wx, wx = w3 := ⟨_, rfl⟩
    have hno : ¬ (bf.size ≠ 0 ∧ 0 ≤ gnC bf x0) := fun ⟨h1, _⟩ => h1 (by simpa using ht)
    have kx : K0 w wx := by rw [hwx]; exact k03
    have kx2 : K0 w2 wx := by rw [hwx]; exact kw3
    rw [← hwx]
    clear hwx
    refine nn_is hpp ⟨⟨by omega, by rw [hlen]; omega⟩, b, cell kx2 rfl, ⟨(anum_any b 2147483646 wx (by omega) (by omega)).mono fun e w5 ⟨he, k5⟩ => ⟨_, _, he, .of_k0 k5, bsp_intro (fun h2 W2 hW2 => ?_) (fun h2 => ?_)⟩⟩⟩
    · have h2 : (numR b 2147483646).2 ≠ 0 := by simpa using h2
      exact fail (kk (kx.trans k5) hW2) (by rw [hlin]; unfold lineW; rw [if_neg (by simpa using hg), if_neg hno, if_pos h2]) (by decide)
    have h2 : (numR b 2147483646).2 = 0 := by simpa using h2
    have k05 := kx.trans k5
    have k25 := kx2.trans k5
    refine nn_is hpp ⟨⟨by omega, by rw [hlen]; omega⟩, c, cell k25 rfl, nn_is hpp ⟨gimp_intro fun _ => ⟨by omega, by rw [hlen]; omega⟩, c, gimp_intro fun _ => cell k25 rfl, bsp_intro (fun h3 W2 hW2 => ?_) (fun h3 => ?_)⟩⟩
    · rw [yB, yB] at h3
      have h3 : c ≠ ⟨#[121]⟩ ∧ c ≠ ⟨#[110]⟩ := by simpa using h3
      exact fail (kk k05 hW2) (by rw [hlin]; unfold lineW; rw [if_neg (by simpa using hg), if_neg hno, if_neg (by simpa using h2), if_pos h3]) (by decide)
    have h3 : ¬ (c ≠ ⟨#[121]⟩ ∧ c ≠ ⟨#[110]⟩) := fun ⟨a1, a2⟩ => by
      rw [yB, yB, decide_eq_false a1, decide_eq_false a2] at h3
      cases h3
    obtain ⟨_, u1, u2, _⟩ := numR_ok h2
    refine nn_is hpp ⟨⟨by omega, by rw [hlen]; omega⟩, c, cell k25 rfl, ?_⟩
    rw [yB]
    intro n2
    cases d with
    | none =>
      refine bsp_intro (fun h => by simp at h) (fun _ W2 hW2 => ?_)
      have hl : lineA s bf = .inl (x0, ⟨(numR b 2147483646).1, decide (c = ⟨#[110]⟩), []⟩) := by
        rw [hlin]; unfold lineW
        rw [if_neg (by simpa using hg), if_neg hno, if_neg (by simpa using h2), if_neg h3]
      unfold PLn
      rw [hl]
      exact ⟨⟨none, 0, rfl, World.ownsRow_nil _ _ _ _⟩, hW2.k0 k05⟩
    | some d =>
      have hdz : d.size ≤ 1048576 := by have := hps d (by simp); omega
      refine bsp_intro (fun _ => nn_is hpp ⟨⟨by omega, by rw [hlen]; simp⟩, d, fun W2 hW2 => cell (k25.trans (hW2.kk rfl)) rfl, fun W2 hW2 => ?_⟩) (fun h => by simp at h)
      have k2W : K0 w W2 := hW2.k0 k05
      have l1 := block_lt (hW2.cells 0 rfl)
      have l2 := block_lt (hW2.cells 1 rfl)
      simp only at l1 l2
      refine ⟨(acpranges_any d (numR b 2147483646).1 W2 hdz ⟨u1, u2⟩ (gk0 hG k2W)).mono fun e w6 ⟨hm, k6⟩ => ?_⟩
      cases hiv : ivL (numR b 2147483646).1 (partsC 44 d) 1 with
      | none =>
        rw [hiv] at hm
        refine ⟨none, 0, 0, false, hm, .of_k0 k6, bsp_intro (fun _ W3 hW3 => fail (hW3.k0 (k2W.trans k6)) ?_ (by decide)) (fun h => by cases h)⟩
        rw [hlin]; unfold lineW
        rw [if_neg (by simpa using hg), if_neg hno, if_neg (by simpa using h2), if_neg h3]
        simp only
        rw [hiv]
      | some l =>
        rw [hiv] at hm
        obtain ⟨q, cc, he, ho⟩ := hm
        refine ⟨q, l.length, cc, true, he, .of_k0 k6, bsp_intro (fun h => by cases h) (fun _ W3 hW3 => ?_)⟩
        have hl : lineA s bf = .inl (x0, ⟨(numR b 2147483646).1, decide (c = ⟨#[110]⟩), l⟩) := by
          rw [hlin]; unfold lineW
          rw [if_neg (by simpa using hg), if_neg hno, if_neg (by simpa using h2), if_neg h3]
          simp only
          rw [hiv]
        have ho3 := owns_kp ho hW3.kp (fun k hk ⟨z, hz, _, e2⟩ => by
          have := own_ge ho hk
          simp only [List.mem_cons, List.not_mem_nil, or_false] at hz
          rcases hz with rfl | rfl
          · simp only at e2; omega
          · simp only at e2; omega)
        unfold PLn
        rw [hl]
        exact ⟨⟨q, cc, rfl, own_base ho3 k2W.size⟩, hW3.k0 (k2W.trans k6)⟩
  · have hno : ¬ (bf.size ≠ 0 ∧ 0 ≤ gnC bf x0) := fun ⟨_, h1⟩ => by simp at h30; omega
    have kx : K0 w wx := k03.trans kx'
    have kx2 : K0 w2 wx := kw3.trans kx'
    refine nn_is hpp ⟨⟨by omega, by rw [hlen]; omega⟩, b, cell kx2 rfl, ⟨(anum_any b 2147483646 wx (by omega) (by omega)).mono fun e w5 ⟨he, k5⟩ => ⟨_, _, he, .of_k0 k5, bsp_intro (fun h2 W2 hW2 => ?_) (fun h2 => ?_)⟩⟩⟩
    · have h2 : (numR b 2147483646).2 ≠ 0 := by simpa using h2
      exact fail (kk (kx.trans k5) hW2) (by rw [hlin]; unfold lineW; rw [if_neg (by simpa using hg), if_neg hno, if_pos h2]) (by decide)
    have h2 : (numR b 2147483646).2 = 0 := by simpa using h2
    have k05 := kx.trans k5
    have k25 := kx2.trans k5
    refine nn_is hpp ⟨⟨by omega, by rw [hlen]; omega⟩, c, cell k25 rfl, nn_is hpp ⟨gimp_intro fun _ => ⟨by omega, by rw [hlen]; omega⟩, c, gimp_intro fun _ => cell k25 rfl, bsp_intro (fun h3 W2 hW2 => ?_) (fun h3 => ?_)⟩⟩
    · rw [yB, yB] at h3
      have h3 : c ≠ ⟨#[121]⟩ ∧ c ≠ ⟨#[110]⟩ := by simpa using h3
      exact fail (kk k05 hW2) (by rw [hlin]; unfold lineW; rw [if_neg (by simpa using hg), if_neg hno, if_neg (by simpa using h2), if_pos h3]) (by decide)
    have h3 : ¬ (c ≠ ⟨#[121]⟩ ∧ c ≠ ⟨#[110]⟩) := fun ⟨a1, a2⟩ => by
      rw [yB, yB, decide_eq_false a1, decide_eq_false a2] at h3
      cases h3
    obtain ⟨_, u1, u2, _⟩ := numR_ok h2
    refine nn_is hpp ⟨⟨by omega, by rw [hlen]; omega⟩, c, cell k25 rfl, ?_⟩
    rw [yB]
    intro n2
    cases d with
    | none =>
      refine bsp_intro (fun h => by simp at h) (fun _ W2 hW2 => ?_)
      have hl : lineA s bf = .inl (x0, ⟨(numR b 2147483646).1, decide (c = ⟨#[110]⟩), []⟩) := by
        rw [hlin]; unfold lineW
        rw [if_neg (by simpa using hg), if_neg hno, if_neg (by simpa using h2), if_neg h3]
      unfold PLn
      rw [hl]
      exact ⟨⟨none, 0, rfl, World.ownsRow_nil _ _ _ _⟩, hW2.k0 k05⟩
    | some d =>
      have hdz : d.size ≤ 1048576 := by have := hps d (by simp); omega
      refine bsp_intro (fun _ => nn_is hpp ⟨⟨by omega, by rw [hlen]; simp⟩, d, fun W2 hW2 => cell (k25.trans (hW2.kk rfl)) rfl, fun W2 hW2 => ?_⟩) (fun h => by simp at h)
      have k2W : K0 w W2 := hW2.k0 k05
      have l1 := block_lt (hW2.cells 0 rfl)
      have l2 := block_lt (hW2.cells 1 rfl)
      simp only at l1 l2
      refine ⟨(acpranges_any d (numR b 2147483646).1 W2 hdz ⟨u1, u2⟩ (gk0 hG k2W)).mono fun e w6 ⟨hm, k6⟩ => ?_⟩
      cases hiv : ivL (numR b 2147483646).1 (partsC 44 d) 1 with
      | none =>
        rw [hiv] at hm
        refine ⟨none, 0, 0, false, hm, .of_k0 k6, bsp_intro (fun _ W3 hW3 => fail (hW3.k0 (k2W.trans k6)) ?_ (by decide)) (fun h => by cases h)⟩
        rw [hlin]; unfold lineW
        rw [if_neg (by simpa using hg), if_neg hno, if_neg (by simpa using h2), if_neg h3]
        simp only
        rw [hiv]
      | some l =>
        rw [hiv] at hm
        obtain ⟨q, cc, he, ho⟩ := hm
        refine ⟨q, l.length, cc, true, he, .of_k0 k6, bsp_intro (fun h => by cases h) (fun _ W3 hW3 => ?_)⟩
        have hl : lineA s bf = .inl (x0, ⟨(numR b 2147483646).1, decide (c = ⟨#[110]⟩), l⟩) := by
          rw [hlin]; unfold lineW
          rw [if_neg (by simpa using hg), if_neg hno, if_neg (by simpa using h2), if_neg h3]
          simp only
          rw [hiv]
        have ho3 := owns_kp ho hW3.kp (fun k hk ⟨z, hz, _, e2⟩ => by
          have := own_ge ho hk
          simp only [List.mem_cons, List.not_mem_nil, or_false] at hz
          rcases hz with rfl | rfl
          · simp only at e2; omega
          · simp only at e2; omega)
        unfold PLn
        rw [hl]
        exact ⟨⟨q, cc, rfl, own_base ho3 k2W.size⟩, hW3.k0 (k2W.trans k6)⟩

end Go.Proofs.YtgmmoghagpmpfaaGreatDoor

/- Chapter 27: the contract of Parse. A text is not too long; the library's variable MaxLen holds a number. -/
namespace Go.Proofs.YtgmmoghagpmpfaaGreatDoor
open Go.RowKit Go.Maps Go.Sort

theorem insA_end {A : TA} {k : ByteArray} {v : Gv} (h : ∀ p ∈ A, gnC p.1 k < 0) : insA gnC A k v = A ++ [(k, v)] := by
  have e1 : ∀ (l : TA), (∀ p ∈ l, gnC p.1 k < 0) → l.takeWhile (fun p => decide (gnC p.1 k < 0)) = l ∧ l.dropWhile (fun p => decide (gnC p.1 k < 0)) = [] := by
    intro l
    induction l with
    | nil => exact fun _ => ⟨rfl, rfl⟩
    | cons p r ih =>
      intro hl
      obtain ⟨i1, i2⟩ := ih (fun q hq => hl q (List.mem_cons_of_mem _ hq))
      have hp := hl p List.mem_cons_self
      rw [List.takeWhile_cons, List.dropWhile_cons, if_pos (by simpa using hp), if_pos (by simpa using hp), i1, i2]
      exact ⟨rfl, rfl⟩
  unfold insA
  rw [(e1 A h).1, (e1 A h).2]
theorem ksort_last {A : TA} (h : KSort gnC A) {k : ByteArray} (hb : ∀ p, A.getLast? = some p → gnC p.1 k < 0) : ∀ p ∈ A, gnC p.1 k < 0 := by
  have := ksort_snoc (g := (k, (⟨0, false, []⟩ : Gv))) h hb
  intro p hp
  exact (List.pairwise_append.1 this).2.2 p hp _ (List.mem_singleton.2 rfl)
theorem joinT_len {c : UInt8} : ∀ (l : List ByteArray), (∀ x ∈ l, 0 < x.size) → l.length ≤ (joinT c l).size
  | [], _ => Nat.le_refl _
  | [x], h => h x List.mem_cons_self
  | x :: y :: r, h => by
    have h1 := joinT_len (c := c) (y :: r) (fun z hz => h z (List.mem_cons_of_mem _ hz))
    have h2 := h x List.mem_cons_self
    rw [joinT_cons, ByteArray.size_append, ByteArray.size_append, size_one, List.length_cons]
    omega
theorem joinT_mem {c : UInt8} : ∀ (l : List ByteArray) (x : ByteArray), x ∈ l → x.size ≤ (joinT c l).size
  | [], _, h => by cases h
  | [y], x, h => by rw [List.mem_singleton.1 h]; exact Nat.le_refl _
  | y :: z :: r, x, h => by
    rw [joinT_cons, ByteArray.size_append, ByteArray.size_append]
    rcases List.mem_cons.1 h with rfl | h
    · omega
    · have := joinT_mem (c := c) (z :: r) x h
      omega
/-- A set has no more ranges than the table's text has bytes. -/
theorem prT_ranges {A : TA} (hA : ∀ p ∈ A, LnOK p.1 p.2) : ∀ p ∈ A, p.2.l.length ≤ (prT A).size := by
  induction A with
  | nil => intro p hp; cases hp
  | cons q A ih =>
    intro p hp
    rw [prT_cons, ByteArray.size_append]
    rcases List.mem_cons.1 hp with rfl | hp
    · have hok := hA p List.mem_cons_self
      have h1 : p.2.l.length ≤ (lnT p).size := by
        unfold lnT
        rw [ByteArray.size_append]
        cases hv : p.2.l with
        | nil => exact Nat.zero_le _
        | cons x t =>
          have hm : rngT p.2.l ∈ wdT p.1 p.2 := by unfold wdT; rw [hv]; simp
          have h2 := joinT_mem (c := 32) _ _ hm
          have h3 := joinT_len (c := 44) (p.2.l.map ivT) (fun y hy => by
            obtain ⟨z, hz, rfl⟩ := List.mem_map.1 hy
            exact ivT_pos (by have := (hok.iv.mem z hz).1; omega))
          rw [List.length_map] at h3
          have h4 : p.2.l.length ≤ (rngT p.2.l).size := h3
          rw [← hv]
          omega
      omega
    · have := ih (fun r hr => hA r (List.mem_cons_of_mem _ hr)) p hp
      omega
set_option maxHeartbeats 2000000 in
theorem acparse_any (s : ByteArray) (w : World) (hs : s.size ≤ 1048576) (hw : 0 < w.heap.size) (hG : GW w) :
    Calls Tryz.prog 13 #[.string s] w fun e w' => (match parseT s with
      | .inl A => ∃ b mb m, e = .returned (.tuple #[.pointer (some ⟨b, 0, none⟩), .int .i64 0, .int .i64 0]) ∧ Tq w' w.heap.size b mb m A
      | .inr (n, er) => e = .returned (.tuple #[.pointer none, .int .i64 (n : Nat), .int .i64 er]) ∧ er ≠ 0) ∧ K0 w w' := by
  refine vc_acparse s w _ (bsp_intro (fun h => by simp at h; omega) (fun _ => ⟨(acnew_any w hw).mono fun e w1 ⟨⟨b, mb, he, hT⟩, k1⟩ => ⟨_, he, .of_k0 k1, ?_⟩⟩))
  refine ⟨fun vs w' => ∃ (A : TA) (m : TM) (f : Nat) (bf rest : ByteArray), vs = [.pointer (some ⟨b, 0, none⟩), .string bf, .string rest, .int .i64 (A.length : Nat)] ∧ Tq w' w.heap.size b mb m A ∧ parseT s = parseA f rest (A.length + 1) bf A ∧ rest.size < f ∧ rest.size ≤ s.size ∧ bf.size ≤ 1048576 ∧ (∀ p, A.getLast? = some p → bf = p.1) ∧ K0 w w',
    fun vs _ => (match vs with | [_, _, .string r, _] => r.size | _ => 0), ⟨[], [], s.size + 1, ⟨#[]⟩, s, rfl, hT, rfl, by omega, by omega, by show 0 ≤ 1048576; omega, (fun p hp => by cases hp), k1⟩, ?_⟩
  rintro x0 x1 x2 x3 w2 ⟨A, m, f, bf, rest, hv, hT2, hE, hf, hrs, hbz, hbf, k2⟩
  simp only [List.cons.injEq, Value.pointer.injEq, Value.string.injEq, Value.int.injEq, true_and, and_true] at hv
  obtain ⟨rfl, rfl, rfl, rfl⟩ := hv
  obtain ⟨f, rfl⟩ : ∃ g, f = g + 1 := ⟨f - 1, by omega⟩
  have hE2 : parseT s = if x2.size = 0 then .inl A else if ¬ findC 10 x2 < x2.size then .inr (A.length + 1, 4) else
    match lineA (x2.extract 0 (findC 10 x2)) x1 with
    | .inr e => .inr (A.length + 1, e)
    | .inl g => if 4096 < A.length + 1 then .inr (A.length + 1, 9) else parseA f (x2.extract (findC 10 x2 + 1) x2.size) (A.length + 1 + 1) g.1 (A ++ [g]) := hE
  have hlen := hT2.len
  have hinc : IntKind.i64.wrap (((A.length : Nat) : Int) + 1) = ((A.length + 1 : Nat) : Int) := inc64 (by omega)
  have hG2 := gk0 hG k2
  rw [emB]
  refine bsp_intro (fun h0 => ?_) (fun h0 => ?_)
  · have h0 : x2.size ≠ 0 := by simpa using h0
    rw [if_neg h0] at hE2
    refine ⟨(cut27_any 10 x2 w2 (by omega) hG2).mono fun e w3 ⟨he, k3⟩ => ⟨_, _, _, he, .of_k0 k3, ?_⟩⟩
    have k03 := k2.trans k3
    by_cases hk : findC 10 x2 < x2.size
    · rw [if_neg (by simpa using hk)] at hE2
      rw [if_pos hk, if_pos hk, decide_eq_true hk]
      have z1 : (x2.extract 0 (findC 10 x2)).size ≤ 1048576 := by rw [ByteArray.size_extract]; omega
      have z2 : (x2.extract (findC 10 x2 + 1) x2.size).size < x2.size := by rw [ByteArray.size_extract]; omega
      refine bsp_intro (fun h => by cases h) (fun _ => ⟨(acpline_any (x2.extract 0 (findC 10 x2)) x1 w3 z1 hbz (gk0 hG k03)).mono fun e w4 hP => ?_⟩)
      unfold PLn at hP
      obtain ⟨hP, k4⟩ := hP
      have k04 := k03.trans k4
      cases hl : lineA (x2.extract 0 (findC 10 x2)) x1 with
      | inr er =>
        rw [hl] at hP hE2
        obtain ⟨he0, he⟩ := hP
        refine ⟨_, _, _, _, _, _, _, he, .of_k0 k4, fun n1 => bsp_intro (fun _ W hW => ?_) (fun h => by simp at h; exact absurd h he0)⟩
        rw [hE2, hinc]
        exact ⟨⟨rfl, he0⟩, hW.k0 k04⟩
      | inl g =>
        rw [hl] at hP hE2
        obtain ⟨p, c, he, ho⟩ := hP
        obtain ⟨g1, g2, g3⟩ := lineA_ok hl
        have hgz := name_size g1.nm
        refine ⟨_, _, _, _, _, _, _, he, .of_k0 k4, fun n1 => bsp_intro (fun h => by simp at h) (fun _ => ?_)⟩
        rw [hinc]
        refine bsp_intro (fun h9 W hW => ?_) (fun h9 => nn_is rfl ⟨some mb, fun W hW => (hT2.k0 ((k3.trans k4).trans (hW.kk rfl))).z.cM, fun W hW => ?_⟩)
        · have h9 : 4096 < A.length + 1 := by simp at h9; omega
          simp only at hE2
          rw [if_pos h9] at hE2
          rw [hE2]
          exact ⟨⟨rfl, by decide⟩, hW.k0 k04⟩
        · have h9 : ¬ 4096 < A.length + 1 := by simp at h9; omega
          simp only at hE2
          rw [if_neg h9] at hE2
          have k2W : K0 w2 W := (k3.trans k4).trans (hW.kk rfl)
          have hall : ∀ q ∈ A, gnC q.1 g.1 < 0 := ksort_last hT2.wf.sort (fun q hq => by
            have e := hbf q hq
            rw [← e]
            refine g2 (fun e2 => ?_)
            have := (name_no (hT2.wf.nm q (List.mem_of_getLast? hq))).1
            rw [← e] at this
            omega)
          have hins := insA_end (v := g.2) hall
          have hnone : aget A g.1 = none := by
            rw [aget_none]
            intro q hq e
            have := hall q hq
            rw [e, gnC_ord.self] at this
            omega
          have hmn : aget m g.1 = none := by
            have := hT2.get g.1
            rw [hnone] at this
            cases hx : aget m g.1 with
            | none => rfl
            | some y => rw [hx] at this; cases this
          have hm : ∀ {q}, q ∈ A ++ [g] → q ∈ A ∨ q = g := fun hp => by
            rcases List.mem_append.1 hp with h | h
            · exact .inl h
            · exact .inr (List.mem_singleton.1 h)
          have hw2 : WF (A ++ [g]) := ⟨ksort_snoc hT2.wf.sort (fun q hq => hall q (List.mem_of_getLast? hq)), fun p hp => by rcases hm hp with h | rfl; exact hT2.wf.nm p h; exact g1.nm, fun p hp => by rcases hm hp with h | rfl; exact hT2.wf.hi p h; exact ⟨g1.h0, g1.hi⟩, fun p hp => by rcases hm hp with h | rfl; exact hT2.wf.iv p h; exact g1.iv⟩
          have hoW : Gx.own W w.heap.size ⟨g.2, p, c⟩ := owns_kp (own_base ho k03.size) (hW.kk rfl : K0 w4 W) (fun _ _ h => h)
          obtain ⟨w5, hu, hT5, k5⟩ := Ts.ins (w := W) hT2 (x := ⟨g.2, p, c⟩) hmn k2W (by omega) hoW (fun k (hk : (Value.slice p g.2.l.length c).ownBlock = some k) => by have := own_ge ho hk; have := k3.size; omega) (by show WF (insA gnC A g.1 g.2); rw [hins]; exact hw2) (by omega)
          have hA5 : insA gnC A g.1 (⟨g.2, p, c⟩ : Gx).v = A ++ [g] := hins
          rw [hA5] at hT5
          have hl1 : (A ++ [g]).length = A.length + 1 := by simp
          refine ⟨w5, hu, hT2.z.keptL k5 (fun k hk => by simp only [List.mem_cons, List.not_mem_nil, or_false] at hk; rw [hk]; have : w4.heap.size ≤ n1 := hW.fresh 0 rfl rfl; have := k3.size; have := k4.size; omega), ⟨A ++ [g], _, f, g.1, x2.extract (findC 10 x2 + 1) x2.size, by rw [hl1], hT5.t, by rw [hE2, hl1], by omega, by omega, by omega, fun q hq => by simp at hq; rw [← hq], hT5.base hT2.z k2 (Nat.le_refl _)⟩, z2⟩
    · rw [if_pos hk] at hE2
      rw [decide_eq_false hk]
      refine bsp_intro (fun _ => ?_) (fun h => by cases h)
      rw [hE2, hinc]
      exact ⟨⟨rfl, by decide⟩, k03⟩
  · have h0 : x2.size = 0 := by simpa using h0
    rw [if_pos h0] at hE2
    rw [hE2]
    exact ⟨⟨b, mb, m, rfl, hT2⟩, k2⟩

end Go.Proofs.YtgmmoghagpmpfaaGreatDoor

/- The formulas of functions by the symbolic evaluator, and that each gives the call's contract. Written by a program (gen.py). No condition. -/
namespace Go.Proofs.YtgmmoghagpmpfaaGreatDoor
set_option maxRecDepth 100000
set_option linter.unusedVariables false

def VC_aclknown (w : World) (R : Ending → World → Prop) : Prop :=
 CallsS Tryz.prog 19 #[] w fun (e : Ending) (w' : World) =>
 ∃ (x : Option Addr),
 e = Ending.returned (Value.pointer x) ∧
 KeptL [] w w' ∧
 bsp x.isNone (R (Ending.returned (Value.bool false)) w')
 (CallsS Tryz.prog 31 #[Value.pointer x, Value.string (ByteArray.mk #[97])] w' fun (e : Ending) (w'_1 : World) =>
 ∃ (x_1 : Int),
 e = Ending.returned (Value.int IntKind.i64 x_1) ∧
 KeptL [] w' w'_1 ∧
 ∀ (n : Nat) (W : World),
 Loc w.heap.size [Blk.mk n 9 [Value.string (ByteArray.mk #[97])] 2] w'_1 W →
 CallsS Tryz.prog 27 #[Value.pointer x, Value.slice (some (Addr.mk n 0 none)) 1 1] W
 fun (e : Ending) (w' : World) =>
 ∃ (p : Option Addr),
 ∃ (n : Nat),
 ∃ (c : Nat),
 ∃ (x_2 : Int),
 e = Ending.returned (Value.tuple #[Value.slice p n c, Value.int IntKind.i64 x_2]) ∧
 KeptL [] W w' ∧
 ∀ (n_1 : Nat) (W : World),
 Loc w.heap.size [Blk.mk n_1 9 [Value.string (ByteArray.mk #[97])] 2] w' W →
 CallsS Tryz.prog 27 #[Value.pointer x, Value.slice (some (Addr.mk n_1 0 none)) 1 1] W
 fun (e : Ending) (w' : World) =>
 ∃ (p_1 : Option Addr),
 ∃ (n_2 : Nat),
 ∃ (c : Nat),
 ∃ (x_3 : Int),
 e = Ending.returned (Value.tuple #[Value.slice p_1 n_2 c, Value.int IntKind.i64 x_3]) ∧
 KeptL [] W w' ∧
 ∀ (n_3 : Nat) (W : World),
 Loc w.heap.size [Blk.mk n_3 9 [Value.string (ByteArray.mk #[97])] 2] w' W →
 CallsS Tryz.prog 27 #[Value.pointer x, Value.slice (some (Addr.mk n_3 0 none)) 1 1] W
 fun (e : Ending) (w' : World) =>
 ∃ (p_2 : Option Addr),
 ∃ (n_4 : Nat),
 ∃ (c : Nat),
 ∃ (x_4 : Int),
 e =
 Ending.returned (Value.tuple #[Value.slice p_2 n_4 c, Value.int IntKind.i64 x_4]) ∧
 KeptL [] W w' ∧
 CallsS Tryz.prog 33
 #[Value.pointer x,
 Value.agg #[Value.string (ByteArray.mk #[97]), Value.int IntKind.i64 2]]
 w' fun (e : Ending) (w'_2 : World) =>
 ∃ (x_5 : Int),
 e = Ending.returned (Value.int IntKind.i64 x_5) ∧
 KeptL [] w' w'_2 ∧
 CallsS Tryz.prog 16 #[Value.pointer x, Value.string (ByteArray.mk #[97])] w'_2
 fun (e : Ending) (w' : World) =>
 ∃ (x_6 : ByteArray),
 ∃ (x_7 : Int),
 ∃ (x_8 : Int),
 ∃ (x_9 : Int),
 ∃ (x_10 : Bool),
 ∃ (x_11 : Int),
 e =
 Ending.returned
 (Value.tuple
 #[Value.agg
 #[Value.string x_6, Value.int IntKind.i64 x_7,
 Value.int IntKind.i64 x_8, Value.int IntKind.i64 x_9,
 Value.bool x_10],
 Value.int IntKind.i64 x_11]) ∧
 KeptL [] w'_2 w' ∧
 ∀ (n_5 : Nat) (W : World),
 Loc w.heap.size
 [Blk.mk n_5 31
 [Value.string x_6, Value.int IntKind.i64 x_7,
 Value.int IntKind.i64 x_8, Value.int IntKind.i64 x_9,
 Value.bool x_10]
 (wrM 2)]
 w' W →
 CallsS Tryz.prog 13
 #[Value.string
 (ByteArray.mk #[97, 32, 51, 32, 121, 32, 50, 44, 49, 10])]
 W fun (e : Ending) (w' : World) =>
 ∃ (x_12 : Option Addr),
 ∃ (x_13 : Int),
 ∃ (x_14 : Int),
 e =
 Ending.returned
 (Value.tuple
 #[Value.pointer x_12, Value.int IntKind.i64 x_13,
 Value.int IntKind.i64 x_14]) ∧
 KeptL [n_5] W w' ∧
 CallsS Tryz.prog 13
 #[Value.string
 (ByteArray.mk #[97, 32, 51, 32, 121, 32, 49, 44, 51, 10])]
 w' fun (e : Ending) (w'_3 : World) =>
 ∃ (x_15 : Option Addr),
 ∃ (x_16 : Int),
 ∃ (x_17 : Int),
 e =
 Ending.returned
 (Value.tuple
 #[Value.pointer x_15, Value.int IntKind.i64 x_16,
 Value.int IntKind.i64 x_17]) ∧
 KeptL [n_5] w' w'_3 ∧
 nn (x_1 == 0 && x_2 == 0 && (↑n : Int) == 1) p
 fun (b o : Nat) =>
 gimp (x_1 == 0 && x_2 == 0 && (↑n : Int) == 1)
 ((0 : Int) ≤ 0 ∧ 0 < (↑n : Int)) ∧
 ∃ (x_18 : ByteArray),
 ∃ (x_19 : Int),
 gimp (x_1 == 0 && x_2 == 0 && (↑n : Int) == 1)
 (AtL w'_3 b o
 [Value.string x_18, Value.int IntKind.i64 x_19]) ∧
 ∃ (r : Bool),
 gimp (x_1 == 0 && x_2 == 0 && (↑n : Int) == 1)
 (EqP Tryz.prog 64
 (Value.agg
 #[Value.string x_18,
 Value.int IntKind.i64 x_19])
 (Value.agg
 #[Value.string (ByteArray.mk #[97]),
 Value.int IntKind.i64 1])
 r) ∧
 ∃ (r_1 : Bool),
 gimp
 (x_1 == 0 && x_2 == 0 && (↑n : Int) == 1 &&
 r &&
 x_5 == 0 &&
 x_11 == 0)
 (EqP Tryz.prog 31
 (Value.agg
 #[Value.string x_6,
 Value.int IntKind.i64 x_7,
 Value.int IntKind.i64 x_8,
 Value.int IntKind.i64 x_9, Value.bool x_10])
 (Value.agg
 #[Value.string (ByteArray.mk #[97]),
 Value.int IntKind.i64 1,
 Value.int IntKind.i64 3,
 Value.int IntKind.i64 2, Value.bool false])
 r_1) ∧
 bsp
 (x_1 == 0 && x_2 == 0 && (↑n : Int) == 1 &&
 r &&
 x_5 == 0 &&
 x_11 == 0 &&
 r_1)
 (CallsS Tryz.prog 17 #[Value.pointer x] w'_3
 fun (e : Ending) (w' : World) =>
 ∃ (x_20 : ByteArray),
 e = Ending.returned (Value.string x_20) ∧
 KeptL [n_5] w'_3 w' ∧
 bsp
 (true &&
 x_20.toList ==
 [(ByteArray.mk
 #[97, 32, 51, 32, 121, 32, 49,
 44, 51, 10]).get!
 0,
 (ByteArray.mk
 #[97, 32, 51, 32, 121, 32, 49,
 44, 51, 10]).get!
 1,
 (ByteArray.mk
 #[97, 32, 51, 32, 121, 32, 49,
 44, 51, 10]).get!
 2,
 (ByteArray.mk
 #[97, 32, 51, 32, 121, 32, 49,
 44, 51, 10]).get!
 3,
 (ByteArray.mk
 #[97, 32, 51, 32, 121, 32, 49,
 44, 51, 10]).get!
 4,
 (ByteArray.mk
 #[97, 32, 51, 32, 121, 32, 49,
 44, 51, 10]).get!
 5,
 (ByteArray.mk
 #[97, 32, 51, 32, 121, 32, 49,
 44, 51, 10]).get!
 6,
 (ByteArray.mk
 #[97, 32, 51, 32, 121, 32, 49,
 44, 51, 10]).get!
 7,
 (ByteArray.mk
 #[97, 32, 51, 32, 121, 32, 49,
 44, 51, 10]).get!
 8,
 (ByteArray.mk
 #[97, 32, 51, 32, 121, 32, 49,
 44, 51, 10]).get!
 9] &&
 x_13 == 1 &&
 x_14 == 3 &&
 x_17 == 0 &&
 !x_15.isNone)
 (CallsS Tryz.prog 24
 #[Value.pointer x_15, Value.pointer x] w'
 fun (e : Ending) (w'_4 : World) =>
 ∃ (x : Bool),
 e = Ending.returned (Value.bool x) ∧
 KeptL [n_5] w' w'_4 ∧
 R
 (Ending.returned
 (Value.bool (true && x)))
 w'_4)
 (KeptL [n_5] w' w' ∧
 R (Ending.returned (Value.bool false))
 w'))
 (KeptL [n_5] w'_3 w'_3 ∧
 KeptL [n_5] w'_3 w'_3 ∧
 R (Ending.returned (Value.bool false)) w'_3))
theorem vc_aclknown (w : World) (R : Ending → World → Prop) (h : VC_aclknown w R) : Calls Tryz.prog 15 ([] : List Value).toArray w R := by
  have e : execR2 { P := Tryz.prog, loops := [], pur := pur1, tails := [], joins := [], boxes := [] } Tryz.f15.results.toList R (Tryz.f15.body.getD .skip) (initF [] (Tryz.f15.ntmps - ([] : List Value).length)) w = VC_aclknown w R := by kernel_rfl
  have hb : Tryz.f15.body = some (Tryz.f15.body.getD .skip) := by kernel_rfl
  exact calls_of_exec2' (P := Tryz.prog) (fn := Tryz.f15) (c := Tryz.f15.body.getD .skip) (args := []) (w := w) (R := R) pur1_ok Tryz.func15 hb e h

end Go.Proofs.YtgmmoghagpmpfaaGreatDoor

/- Chapter 27: the examples of the chapter hold: known returns true. The library's variable MaxLen holds a number, its table of powers of ten reads as laid. -/
namespace Go.Proofs.YtgmmoghagpmpfaaGreatDoor
open Go.RowKit Go.Maps Go.Sort

theorem gw_lt {w : World} (h : GW w) : 0 < w.heap.size := by
  obtain ⟨m, hm⟩ := h
  rcases Nat.lt_or_ge 0 w.heap.size with h' | h'
  · exact h'
  · unfold World.cell? at hm
    simp only [Array.getElem?_eq_none h'] at hm
    cases hm
def kA : ByteArray := ⟨#[97]⟩
def kT1 : ByteArray := ⟨#[97, 32, 51, 32, 121, 32, 50, 44, 49, 10]⟩
def kT2 : ByteArray := ⟨#[97, 32, 51, 32, 121, 32, 49, 44, 51, 10]⟩
def tA (h : Int) (l : List Iv) : TA := [(kA, ⟨h, false, l⟩)]
section
set_option maxRecDepth 100000
theorem kn0 : opA [] kA = (tA 0 [], 0) := by kernel_rfl
theorem kn1 : asR (tA 0 []) [kA] = (tA 1 [⟨1, 1⟩], [1], 0) := by kernel_rfl
theorem kn2 : asR (tA 1 [⟨1, 1⟩]) [kA] = (tA 2 [⟨1, 2⟩], [2], 0) := by kernel_rfl
theorem kn3 : asR (tA 2 [⟨1, 2⟩]) [kA] = (tA 3 [⟨1, 3⟩], [3], 0) := by kernel_rfl
theorem kn4 : rmA (tA 3 [⟨1, 3⟩]) kA 2 = (tA 3 [⟨1, 1⟩, ⟨3, 3⟩], 0) := by kernel_rfl
theorem kn5 : aget (tA 3 [⟨1, 1⟩, ⟨3, 3⟩]) kA = some ⟨3, false, [⟨1, 1⟩, ⟨3, 3⟩]⟩ := by kernel_rfl
theorem kn6 : parseT kT1 = .inr (1, 3) := by kernel_rfl
theorem kn7 : parseT kT2 = .inl (tA 3 [⟨1, 1⟩, ⟨3, 3⟩]) := by kernel_rfl
end
theorem kn8 : prT (tA 3 [⟨1, 1⟩, ⟨3, 3⟩]) = kT2 := (parse_ok kn7).2.2
theorem row_lit {w : World} {n : Nat} {t : TypeId} {f : Nat × Nat} (h : w.heap[n]? = some (.cells #[.string kA] t f)) : StrP w (some ⟨n, 0, none⟩) [kA] := strP_lit (zs := [kA]) h
theorem ty_lit {w : World} {n : Nat} {c : Array Value} {t : TypeId} {f : Nat × Nat} (h : w.heap[n]? = some (.cells c t f)) : TyN t w (some ⟨n, 0, none⟩) := fun g o e => by
  cases e
  exact ⟨_, _, h⟩
set_option maxHeartbeats 4000000 in
set_option maxRecDepth 100000 in
theorem acknown_any (w : World) (hG : GW w) (hT : GT w) : Calls Tryz.prog 15 #[] w fun e w' => e = .returned (.bool true) ∧ K0 w w' := by
  have hw := gw_lt hG
  refine vc_aclknown w _ ?_
  refine ⟨(acnew_any w hw).mono fun e w1 ⟨⟨b, mb, he, hT1⟩, k1⟩ => ⟨_, he, .of_k0 k1, bsp_intro (fun h => by cases h) (fun _ => ?_)⟩⟩
  refine ⟨(acopen_any hT1 kA (by decide) (gk0 hG k1)).mono fun e w2 ⟨he, m2, hT2⟩ => ?_⟩
  rw [kn0] at he hT2
  have k2 : K0 w w2 := hT2.base hT1.z k1 (Nat.le_refl _)
  refine ⟨_, he, ⟨hT2.k.size, fun _ hm => by cases hm⟩, fun n1 W2 hW2 => ?_⟩
  have kW2 : K0 w W2 := k2.trans (hW2.kk rfl)
  have hTW2 := hT2.t.k0 (hW2.kk rfl)
  refine ⟨(acassign_any hTW2 [kA] (some ⟨n1, 0, none⟩) 1 (row_lit (hW2.cells 0 rfl)) (ty_lit (hW2.cells 0 rfl)) (by decide) (by decide) (by decide)).mono fun e w3 ⟨⟨p3, c3, he, hr3, ht3⟩, m3, hT3⟩ => ?_⟩
  rw [kn1] at he hr3 hT3
  have k3 : K0 w w3 := hT3.base hTW2.z kW2 (Nat.le_refl _)
  refine ⟨_, _, _, _, he, ⟨hT3.k.size, fun _ hm => by cases hm⟩, fun n2 W3 hW3 => ?_⟩
  have kW3 : K0 w W3 := k3.trans (hW3.kk rfl)
  have hTW3 := hT3.t.k0 (hW3.kk rfl)
  refine ⟨(acassign_any hTW3 [kA] (some ⟨n2, 0, none⟩) 1 (row_lit (hW3.cells 0 rfl)) (ty_lit (hW3.cells 0 rfl)) (by decide) (by decide) (by decide)).mono fun e w4 ⟨⟨p4, c4, he, _, _⟩, m4, hT4⟩ => ?_⟩
  rw [kn2] at he hT4
  have k4 : K0 w w4 := hT4.base hTW3.z kW3 (Nat.le_refl _)
  refine ⟨_, _, _, _, he, ⟨hT4.k.size, fun _ hm => by cases hm⟩, fun n3 W4 hW4 => ?_⟩
  have kW4 : K0 w W4 := k4.trans (hW4.kk rfl)
  have hTW4 := hT4.t.k0 (hW4.kk rfl)
  refine ⟨(acassign_any hTW4 [kA] (some ⟨n3, 0, none⟩) 1 (row_lit (hW4.cells 0 rfl)) (ty_lit (hW4.cells 0 rfl)) (by decide) (by decide) (by decide)).mono fun e w5 ⟨⟨p5, c5, he, _, _⟩, m5, hT5⟩ => ?_⟩
  rw [kn3] at he hT5
  have k5 : K0 w w5 := hT5.base hTW4.z kW4 (Nat.le_refl _)
  refine ⟨_, _, _, _, he, ⟨hT5.k.size, fun _ hm => by cases hm⟩, ?_⟩
  refine ⟨(acremove_any hT5.t kA (by decide) 2 (by decide)).mono fun e w6 ⟨he, m6, hT6⟩ => ?_⟩
  rw [kn4] at he hT6
  have k6 : K0 w w6 := hT6.base hT5.t.z k5 (Nat.le_refl _)
  refine ⟨_, he, ⟨hT6.k.size, fun _ hm => by cases hm⟩, ?_⟩
  refine ⟨(acget_any hT6.t kA (by decide)).mono fun e w7 ⟨he, k67⟩ => ?_⟩
  rw [kn5] at he
  have k7 := k6.trans k67
  refine ⟨_, _, _, _, _, _, he, .of_k0 k67, fun n5 W7 hW7 => ?_⟩
  have kW7 : K0 w W7 := k7.trans (hW7.kk rfl)
  refine ⟨(acparse_any kT1 W7 (by decide) (gw_lt (gk0 hG kW7)) (gk0 hG kW7)).mono fun e w8 hP8 => ?_⟩
  rw [kn6] at hP8
  obtain ⟨⟨he, _⟩, k8⟩ := hP8
  refine ⟨_, _, _, he, .of_k0 k8, ?_⟩
  have k08 := kW7.trans k8
  refine ⟨(acparse_any kT2 w8 (by decide) (gw_lt (gk0 hG k08)) (gk0 hG k08)).mono fun e w9 hP9 => ?_⟩
  rw [kn7] at hP9
  obtain ⟨⟨b9, mb9, m9, he, hT9⟩, k9⟩ := hP9
  refine ⟨_, _, _, he, .of_k0 k9, ?_⟩
  have k09 := k08.trans k9
  have nt : ∀ {w : World} {B b mb : Nat} {m : TM} {A : TA} (h : Tq w B b mb m A) (k : Nat) (c : Array Value) (f : Nat × Nat), w.heap[k]? = some (.cells c 64 f) → ¬ Tb mb m k := fun h k c f hc => h.z.not_ty hc (by decide)
  have r1 := hr3.k0 (hW3.kk rfl)
  have t1 := ht3.k0 (hW3.kk rfl)
  have r2 := (r1.kpT t1 hT4.k (nt hTW3)).k0 (hW4.kk rfl)
  have t2 := (t1.kp hT4.k (nt hTW3)).k0 (hW4.kk rfl)
  have r3 := r2.kpT t2 hT5.k (nt hTW4)
  have t3 := t2.kp hT5.k (nt hTW4)
  have r4 := (r3.kpT t3 hT6.k (nt hT5.t)).k0 (((k67.trans (hW7.kk rfl)).trans k8).trans k9)
  obtain ⟨gb, go, hp3, hat⟩ := r4 0 (kA, 1) rfl
  rw [Nat.zero_mul, Nat.add_zero] at hat
  have hT69 := hT6.t.k0 (((k67.trans (hW7.kk rfl)).trans k8).trans k9)
  refine nn_is hp3 ⟨gimp_intro fun _ => by decide, kA, 1, gimp_intro fun _ => hat, _, gimp_intro fun _ => plEq27 kA kA 1 1, _, gimp_intro fun _ => grEq27 kA kA _ _ _ _ _ _ _ _, bsp_intro (fun _ => ?_) (fun h => ?_)⟩
  · refine ⟨(acprint_any hT69 (gk0 hG k09) (hT.k0 k09) (by decide)).mono fun e w10 ⟨he, k10⟩ => ?_⟩
    rw [kn8] at he
    have k010 := k09.trans k10
    refine ⟨_, he, .of_k0 k10, bsp_intro (fun _ => ?_) (fun h => ?_)⟩
    · exact ⟨(acequal_any (hT9.k0 k10) (hT69.k0 k10)).mono fun e w11 ⟨⟨r, he, hr⟩, k11⟩ => ⟨r, he, .of_k0 k11, by rw [hr.2 rfl]; exact ⟨rfl, k010.trans k11⟩⟩⟩
    · exact absurd h (by simp only [Option.isNone_some, Bool.not_false, Bool.and_true]; decide +kernel)
  · exact absurd h (by decide +kernel)

end Go.Proofs.YtgmmoghagpmpfaaGreatDoor

/- The formulas of functions by the symbolic evaluator, and that each gives the call's contract. Written by a program (gen.py). No condition. -/
namespace Go.Proofs.YtgmmoghagpmpfaaGreatDoor
set_option maxRecDepth 100000
set_option linter.unusedVariables false

def VC_aclnames (p : Option Addr) (n : Nat) (c : Nat) (w : World) (R : Ending → World → Prop) : Prop :=
 ∃ (I : List Value → World → Prop),
 ∃ (m : List Value → World → Nat),
 I [Value.int IntKind.i64 0, Value.slice none 0 0] w ∧
 ∀ (x : Int) (p_1 : Option Addr) (n_1 c : Nat) (w' : World),
 I [Value.int IntKind.i64 x, Value.slice p_1 n_1 c] w' →
 bsp (decide (x < (↑n : Int)) && decide (x < 4))
 (∀ (W : World),
 Loc w.heap.size [] w' W →
 ∃ (S : World → Prop),
 S W ∧
 nn true p fun (b o : Nat) =>
 (0 ≤ x ∧ x < (↑n : Int)) ∧
 ∃ (x_1 : ByteArray),
 (∀ (w' : World), S w' → w'.cell? (Addr.mk b (o + x.toNat) none) = some (Value.string x_1)) ∧
 nn true p fun (b o : Nat) =>
 (0 ≤ x ∧ x < (↑n : Int)) ∧
 ∃ (x_2 : ByteArray),
 (∀ (w' : World), S w' → w'.cell? (Addr.mk b (o + x.toNat) none) = some (Value.string x_2)) ∧
 ((0 ≤ if 100 < (↑x_2.size : Int) then 100 else (↑x_2.size : Int)) ∧
 (if 100 < (↑x_2.size : Int) then 100 else (↑x_2.size : Int)) ≤ (↑x_1.size : Int)) ∧
 ∀ (n : Nat) (w1 : World),
 NewB W
 (Obj.cells
 #[Value.string
 (x_1.extract 0 (if 100 < (↑x_2.size : Int) then 100 else (↑x_2.size : Int)).toNat)]
 9)
 n w1 →
 ∃ (base : Nat),
 ∃ (xs : List Value),
 ∃ (news : List Value),
 w1.ownsRow base 9 1 (Value.slice p_1 n_1 c) n_1 xs ∧
 news.length = 1 ∧
 SrcP w1 (some (Addr.mk n 0 none)) news ∧
 n_1 + 1 ≤ 9223372036854775807 ∧
 (n_1 + 1) * 16 ≤ 140737488355328 ∧
 base ≤ w1.heap.size ∧
 ∀ (p' : Option Addr) (c' : Nat) (w'_1 : World),
 w'_1.ownsRow base 9 1 (Value.slice p' (n_1 + 1) c') (n_1 + 1) (xs ++ news) →
 w1.grownBy w'_1 (Value.slice p_1 n_1 c).ownBlock →
 AppL w1 p_1 n_1 c 1 p' c' →
 KeptL [] W w'_1 ∧
 I [Value.int IntKind.i64 (IntKind.i64.wrap (x + 1)), Value.slice p' (n_1 + 1) c']
 w'_1 ∧
 m [Value.int IntKind.i64 (IntKind.i64.wrap (x + 1)), Value.slice p' (n_1 + 1) c']
 w'_1 <
 m [Value.int IntKind.i64 x, Value.slice p_1 n_1 c] w')
 (R (Ending.returned (Value.slice p_1 n_1 c)) w')
theorem vc_aclnames (p : Option Addr) (n : Nat) (c : Nat) (w : World) (R : Ending → World → Prop) (h : VC_aclnames p n c w R) : Calls Tryz.prog 28 ([Value.slice
    p n c] : List Value).toArray w R := by
  have e : execR2 { P := Tryz.prog, loops := [(3, [(4, Ck.int IntKind.i64), (3, Ck.slice)])], pur := pur1, tails := [(5, 12)], joins := [], boxes := [] } Tryz.f28.results.toList R (Tryz.f28.body.getD .skip) (initF [Value.slice
    p n c] (Tryz.f28.ntmps - ([Value.slice p n c] : List Value).length)) w = VC_aclnames p n c w R := by kernel_rfl
  have hb : Tryz.f28.body = some (Tryz.f28.body.getD .skip) := by kernel_rfl
  exact calls_of_exec2' (P := Tryz.prog) (fn := Tryz.f28) (c := Tryz.f28.body.getD .skip) (args := [Value.slice p n
    c]) (w := w) (R := R) pur1_ok Tryz.func28 hb e h

def VC_aclfirst (p : Option Addr) (n : Nat) (c : Nat) (w : World) (R : Ending → World → Prop) : Prop :=
 bsp ((↑n : Int) == 0) (R (Ending.returned (Value.string (ByteArray.mk #[]))) w)
 (nn true p fun (b o : Nat) =>
 ((0 : Int) ≤ 0 ∧ 0 < (↑n : Int)) ∧
 ∃ (x : ByteArray), w.cell? (Addr.mk b o none) = some (Value.string x) ∧ R (Ending.returned (Value.string x)) w)
theorem vc_aclfirst (p : Option Addr) (n : Nat) (c : Nat) (w : World) (R : Ending → World → Prop) (h : VC_aclfirst p n c w R) : Calls Tryz.prog 32 ([Value.slice
    p n c] : List Value).toArray w R := by
  have e : execR2 { P := Tryz.prog, loops := [], pur := pur1, tails := [], joins := [], boxes := [] } Tryz.f32.results.toList R (Tryz.f32.body.getD .skip) (initF [Value.slice
    p n c] (Tryz.f32.ntmps - ([Value.slice p n c] : List Value).length)) w = VC_aclfirst p n c w R := by kernel_rfl
  have hb : Tryz.f32.body = some (Tryz.f32.body.getD .skip) := by kernel_rfl
  exact calls_of_exec2' (P := Tryz.prog) (fn := Tryz.f32) (c := Tryz.f32.body.getD .skip) (args := [Value.slice p n
    c]) (w := w) (R := R) pur1_ok Tryz.func32 hb e h

def VC_aclequal (p : Option Addr) (n : Nat) (c : Nat) (q : Option Addr) (k : Nat) (d : Nat) (w : World) (R : Ending → World → Prop) : Prop :=
 bsp ((↑n : Int) != (↑k : Int)) (R (Ending.returned (Value.bool false)) w)
 (∃ (I : List Value → World → Prop),
 ∃ (m : List Value → World → Nat),
 I [Value.int IntKind.i64 0] w ∧
 ∀ (x : Int) (w' : World),
 I [Value.int IntKind.i64 x] w' →
 bsp (decide (x < (↑n : Int)))
 (nn true p fun (b o : Nat) =>
 (0 ≤ x ∧ x < (↑n : Int)) ∧
 ∃ (x_1 : Int),
 (∀ (W : World),
 Loc w.heap.size [] w' W → W.cell? (Addr.mk b (o + x.toNat) none) = some (Value.int IntKind.i64 x_1)) ∧
 nn true q fun (b o : Nat) =>
 (0 ≤ x ∧ x < (↑k : Int)) ∧
 ∃ (x_2 : Int),
 (∀ (W : World),
 Loc w.heap.size [] w' W → W.cell? (Addr.mk b (o + x.toNat) none) = some (Value.int IntKind.i64 x_2)) ∧
 bsp (x_1 != x_2) (∀ (W : World), Loc w.heap.size [] w' W → R (Ending.returned (Value.bool false)) W)
 (∀ (W : World),
 Loc w.heap.size [] w' W →
 I [Value.int IntKind.i64 (IntKind.i64.wrap (x + 1))] W ∧
 m [Value.int IntKind.i64 (IntKind.i64.wrap (x + 1))] W < m [Value.int IntKind.i64 x] w'))
 (R (Ending.returned (Value.bool true)) w'))
theorem vc_aclequal (p : Option Addr) (n : Nat) (c : Nat) (q : Option Addr) (k : Nat) (d : Nat) (w : World) (R : Ending → World → Prop) (h : VC_aclequal p n c q k d w R) : Calls Tryz.prog 39 ([Value.slice
    p n c,
  Value.slice q k d] : List Value).toArray w R := by
  have e : execR2 { P := Tryz.prog, loops := [(4, [(5, Ck.int IntKind.i64)])], pur := pur1, tails := [], joins := [], boxes := [] } Tryz.f39.results.toList R (Tryz.f39.body.getD .skip) (initF [Value.slice
    p n c,
  Value.slice q k
    d] (Tryz.f39.ntmps - ([Value.slice p n c,
  Value.slice q k d] : List Value).length)) w = VC_aclequal p n c q k d w R := by kernel_rfl
  have hb : Tryz.f39.body = some (Tryz.f39.body.getD .skip) := by kernel_rfl
  exact calls_of_exec2' (P := Tryz.prog) (fn := Tryz.f39) (c := Tryz.f39.body.getD .skip) (args := [Value.slice p n c,
  Value.slice q k d]) (w := w) (R := R) pur1_ok Tryz.func39 hb e h

def VC_acldigits (x : Int) (w : World) (R : Ending → World → Prop) : Prop :=
 ∃ (I : List Value → World → Prop),
 ∃ (m : List Value → World → Nat),
 I [Value.int IntKind.i64 x, Value.string (ByteArray.mk #[])] w ∧
 ∀ (x : Int) (x_1 : ByteArray) (w' : World),
 I [Value.int IntKind.i64 x, Value.string x_1] w' →
 bsp (decide (x > 0))
 ((0 ≤ x.tmod 10 ∧ x.tmod 10 ≤ IntKind.i64.wrap (x.tmod 10 + 1) ∧ IntKind.i64.wrap (x.tmod 10 + 1) ≤ (↑10 : Int)) ∧
 (9223372036854775807 -
 (↑(((ByteArray.mk #[48, 49, 50, 51, 52, 53, 54, 55, 56, 57]).extract (x.tmod 10).toNat
 (IntKind.i64.wrap (x.tmod 10 + 1)).toNat).size +
 x_1.size) :
 Int)).NonNeg ∧
 I
 [Value.int IntKind.i64 (IntKind.i64.wrap (x.tdiv 10)),
 Value.string
 ((ByteArray.mk #[48, 49, 50, 51, 52, 53, 54, 55, 56, 57]).extract (x.tmod 10).toNat
 (IntKind.i64.wrap (x.tmod 10 + 1)).toNat ++
 x_1)]
 w' ∧
 m
 [Value.int IntKind.i64 (IntKind.i64.wrap (x.tdiv 10)),
 Value.string
 ((ByteArray.mk #[48, 49, 50, 51, 52, 53, 54, 55, 56, 57]).extract (x.tmod 10).toNat
 (IntKind.i64.wrap (x.tmod 10 + 1)).toNat ++
 x_1)]
 w' <
 m [Value.int IntKind.i64 x, Value.string x_1] w')
 (R (Ending.returned (Value.string x_1)) w')
theorem vc_acldigits (x : Int) (w : World) (R : Ending → World → Prop) (h : VC_acldigits x w R) : Calls Tryz.prog 25 ([Value.int
    IntKind.i64 x] : List Value).toArray w R := by
  have e : execR2 { P := Tryz.prog, loops := [(2, [(0, Ck.int IntKind.i64), (3, Ck.str)])], pur := pur1, tails := [], joins := [], boxes := [] } Tryz.f25.results.toList R (Tryz.f25.body.getD .skip) (initF [Value.int
    IntKind.i64
    x] (Tryz.f25.ntmps - ([Value.int IntKind.i64 x] : List Value).length)) w = VC_acldigits x w R := by kernel_rfl
  have hb : Tryz.f25.body = some (Tryz.f25.body.getD .skip) := by kernel_rfl
  exact calls_of_exec2' (P := Tryz.prog) (fn := Tryz.f25) (c := Tryz.f25.body.getD .skip) (args := [Value.int
    IntKind.i64 x]) (w := w) (R := R) pur1_ok Tryz.func25 hb e h

def VC_aclstate (b : Nat) (p : Option Addr) (n : Nat) (c : Nat) (w : World) (R : Ending → World → Prop) : Prop :=
 CallsS Tryz.prog 18 #[Value.pointer (some (Addr.mk b 0 none))] w fun (e : Ending) (w' : World) =>
 ∃ (p_1 : Option Addr),
 ∃ (n_1 : Nat),
 ∃ (c : Nat),
 e = Ending.returned (Value.slice p_1 n_1 c) ∧
 KeptL [] w w' ∧
 bsp ((↑n_1 : Int) != (↑n : Int)) (R (Ending.returned (Value.bool false)) w')
 (∃ (I : List Value → World → Prop),
 ∃ (m : List Value → World → Nat),
 I [Value.int IntKind.i64 0] w' ∧
 ∀ (x : Int) (w' : World),
 I [Value.int IntKind.i64 x] w' →
 bsp (decide (x < (↑n : Int)))
 (nn true p fun (b_1 o : Nat) =>
 (0 ≤ x ∧ x < (↑n : Int)) ∧
 ∃ (x_1 : ByteArray),
 w'.cell? (Addr.mk b_1 (o + x.toNat * 4) none) = some (Value.string x_1) ∧
 CallsS Tryz.prog 16 #[Value.pointer (some (Addr.mk b 0 none)), Value.string x_1] w'
 fun (e : Ending) (w'_1 : World) =>
 ∃ (x_2 : ByteArray),
 ∃ (x_3 : Int),
 ∃ (x_4 : Int),
 ∃ (x_5 : Int),
 ∃ (x_6 : Bool),
 ∃ (x_7 : Int),
 e =
 Ending.returned
 (Value.tuple
 #[Value.agg
 #[Value.string x_2, Value.int IntKind.i64 x_3, Value.int IntKind.i64 x_4,
 Value.int IntKind.i64 x_5, Value.bool x_6],
 Value.int IntKind.i64 x_7]) ∧
 KeptL [] w' w'_1 ∧
 ∀ (n_2 : Nat) (W : World),
 Loc w.heap.size
 [Blk.mk n_2 31
 [Value.string x_2, Value.int IntKind.i64 x_3, Value.int IntKind.i64 x_4,
 Value.int IntKind.i64 x_5, Value.bool x_6]
 (wrM 2)]
 w'_1 W →
 ∃ (S : World → Prop),
 S W ∧
 nn true p_1 fun (b o : Nat) =>
 (0 ≤ x ∧ x < (↑n_1 : Int)) ∧
 ∃ (x_8 : ByteArray),
 (∀ (w' : World),
 S w' → w'.cell? (Addr.mk b (o + x.toNat) none) = some (Value.string x_8)) ∧
 nn true p fun (b o : Nat) =>
 (0 ≤ x ∧ x < (↑n : Int)) ∧
 ∃ (x_9 : ByteArray),
 (∀ (w' : World),
 S w' → w'.cell? (Addr.mk b (o + x.toNat * 4) none) = some (Value.string x_9)) ∧
 ∃ (x_10 : ByteArray),
 ∃ (x_11 : Int),
 ∃ (x_12 : Int),
 ∃ (x_13 : Int),
 ∃ (x_14 : Bool),
 gimp (!(!x_8.toList == x_9.toList || x_7 != 0))
 (∀ (w' : World),
 S w' →
 AtL w' n_2 0
 [Value.string x_10, Value.int IntKind.i64 x_11,
 Value.int IntKind.i64 x_12, Value.int IntKind.i64 x_13,
 Value.bool x_14]) ∧
 nn (!(!x_8.toList == x_9.toList || x_7 != 0)) p fun (b o : Nat) =>
 gimp (!(!x_8.toList == x_9.toList || x_7 != 0)) (0 ≤ x ∧ x < (↑n : Int)) ∧
 ∃ (x_15 : ByteArray),
 gimp (!(!x_8.toList == x_9.toList || x_7 != 0))
 (∀ (w' : World),
 S w' →
 w'.cell? (Addr.mk b (o + x.toNat * 4) none) =
 some (Value.string x_15)) ∧
 nn (!(!x_8.toList == x_9.toList || x_7 != 0)) p fun (b o : Nat) =>
 gimp (!(!x_8.toList == x_9.toList || x_7 != 0))
 (0 ≤ x ∧ x < (↑n : Int)) ∧
 ∃ (x_16 : ByteArray),
 ∃ (x_17 : Int),
 ∃ (p_2 : Option Addr),
 ∃ (n_3 : Nat),
 ∃ (c : Nat),
 ∃ (x_18 : Bool),
 gimp (!(!x_8.toList == x_9.toList || x_7 != 0))
 (∀ (w' : World),
 S w' →
 AtL w' b (o + x.toNat * 4)
 [Value.string x_16, Value.int IntKind.i64 x_17,
 Value.slice p_2 n_3 c, Value.bool x_18]) ∧
 nn (!(!x_8.toList == x_9.toList || x_7 != 0)) p
 fun (b o : Nat) =>
 gimp (!(!x_8.toList == x_9.toList || x_7 != 0))
 (0 ≤ x ∧ x < (↑n : Int)) ∧
 ∃ (x_19 : Int),
 gimp (!(!x_8.toList == x_9.toList || x_7 != 0))
 (∀ (w' : World),
 S w' →
 w'.cell? (Addr.mk b (o + x.toNat * 4 + 1) none) =
 some (Value.int IntKind.i64 x_19)) ∧
 nn (!(!x_8.toList == x_9.toList || x_7 != 0)) p
 fun (b o : Nat) =>
 gimp (!(!x_8.toList == x_9.toList || x_7 != 0))
 (0 ≤ x ∧ x < (↑n : Int)) ∧
 ∃ (p_3 : Option Addr),
 ∃ (n_4 : Nat),
 ∃ (c_1 : Nat),
 gimp (!(!x_8.toList == x_9.toList || x_7 != 0))
 (∀ (w' : World),
 S w' →
 w'.cell? (Addr.mk b (o + x.toNat * 4 + 2) none) =
 some (Value.slice p_3 n_4 c_1)) ∧
 nn (!(!x_8.toList == x_9.toList || x_7 != 0)) p
 fun (b o : Nat) =>
 gimp (!(!x_8.toList == x_9.toList || x_7 != 0))
 (0 ≤ x ∧ x < (↑n : Int)) ∧
 ∃ (x_20 : Bool),
 gimp (!(!x_8.toList == x_9.toList || x_7 != 0))
 (∀ (w' : World),
 S w' →
 w'.cell?
 (Addr.mk b (o + x.toNat * 4 + 3) none) =
 some (Value.bool x_20)) ∧
 bsp (!(!x_8.toList == x_9.toList || x_7 != 0))
 (CallsS Tryz.prog 56
 #[Value.agg
 #[Value.string x_16,
 Value.int IntKind.i64 x_17,
 Value.slice p_2 n_3 c, Value.bool x_18]]
 W fun (e : Ending) (w'_2 : World) =>
 ∃ (x_21 : Int),
 e =
 Ending.returned
 (Value.int IntKind.i64 x_21) ∧
 S w'_2 ∧
 ∃ (r : Bool),
 EqP Tryz.prog 31
 (Value.agg
 #[Value.string x_10,
 Value.int IntKind.i64 x_11,
 Value.int IntKind.i64 x_12,
 Value.int IntKind.i64 x_13,
 Value.bool x_14])
 (Value.agg
 #[Value.string x_15,
 Value.int IntKind.i64 x_21,
 Value.int IntKind.i64 x_19,
 Value.int IntKind.i64 (↑n_4 : Int),
 Value.bool x_20])
 r ∧
 KeptL [n_2] W w'_2 ∧
 bsp (false || !r)
 (R (Ending.returned (Value.bool false))
 w'_2)
 (I
 [Value.int IntKind.i64
 (IntKind.i64.wrap (x + 1))]
 w'_2 ∧
 m
 [Value.int IntKind.i64
 (IntKind.i64.wrap (x + 1))]
 w'_2 <
 m [Value.int IntKind.i64 x] w'))
 (S W ∧
 KeptL [n_2] W W ∧
 R (Ending.returned (Value.bool false)) W))
 (R (Ending.returned (Value.bool true)) w'))
theorem vc_aclstate (b : Nat) (p : Option Addr) (n : Nat) (c : Nat) (w : World) (R : Ending → World → Prop) (h : VC_aclstate b p n c w R) : Calls Tryz.prog 21 ([Value.pointer
    (some { block := b, off := 0 }),
  Value.slice p n c] : List Value).toArray w R := by
  have e : execR2 { P := Tryz.prog, loops := [(5, [(6, Ck.int IntKind.i64)])], pur := pur1, tails := [(8, 25)], joins := [], boxes := [] } Tryz.f21.results.toList R (Tryz.f21.body.getD .skip) (initF [Value.pointer
    (some { block := b, off := 0 }),
  Value.slice p n
    c] (Tryz.f21.ntmps - ([Value.pointer (some { block := b, off := 0 }),
  Value.slice p n c] : List Value).length)) w = VC_aclstate b p n c w R := by kernel_rfl
  have hb : Tryz.f21.body = some (Tryz.f21.body.getD .skip) := by kernel_rfl
  exact calls_of_exec2' (P := Tryz.prog) (fn := Tryz.f21) (c := Tryz.f21.body.getD .skip) (args := [Value.pointer
    (some { block := b, off := 0 }),
  Value.slice p n c]) (w := w) (R := R) pur1_ok Tryz.func21 hb e h

def VC_aclplay (p : Option Addr) (n : Nat) (c : Nat) (w : World) (R : Ending → World → Prop) : Prop :=
 CallsS Tryz.prog 19 #[] w fun (e : Ending) (w' : World) =>
 ∃ (x : Option Addr),
 e = Ending.returned (Value.pointer x) ∧
 KeptL [] w w' ∧
 ∃ (I : List Value → World → Prop),
 ∃ (m : List Value → World → Nat),
 I [Value.int IntKind.i64 0, Value.slice none 0 0] w' ∧
 ∀ (x_1 : Int) (p_1 : Option Addr) (n_1 c : Nat) (w' : World),
 I [Value.int IntKind.i64 x_1, Value.slice p_1 n_1 c] w' →
 bsp (decide (x_1 < (↑n : Int)) && decide (x_1 < 40))
 (nn true p fun (b o : Nat) =>
 (0 ≤ x_1 ∧ x_1 < (↑n : Int)) ∧
 ∃ (x_2 : Int),
 ∃ (p : Option Addr),
 ∃ (n : Nat),
 ∃ (c_1 : Nat),
 ∃ (x_3 : Int),
 AtL w' b (o + x_1.toNat * 3)
 [Value.int IntKind.u8 x_2, Value.slice p n c_1, Value.int IntKind.i64 x_3] ∧
 CallsS Tryz.prog 20
 #[Value.pointer x, Value.slice p_1 n_1 c,
 Value.agg #[Value.int IntKind.u8 x_2, Value.slice p n c_1, Value.int IntKind.i64 x_3]]
 w' fun (e : Ending) (w'_1 : World) =>
 ∃ (p : Option Addr),
 ∃ (n : Nat),
 ∃ (c_2 : Nat),
 ∃ (x_4 : Bool),
 e = Ending.returned (Value.tuple #[Value.slice p n c_2, Value.bool x_4]) ∧
 KeptL [] w' w'_1 ∧
 bsp (!x_4)
 (R (Ending.returned (Value.tuple #[Value.pointer x, Value.slice p n c_2, Value.bool false]))
 w'_1)
 (I [Value.int IntKind.i64 (IntKind.i64.wrap (x_1 + 1)), Value.slice p n c_2] w'_1 ∧
 m [Value.int IntKind.i64 (IntKind.i64.wrap (x_1 + 1)), Value.slice p n c_2] w'_1 <
 m [Value.int IntKind.i64 x_1, Value.slice p_1 n_1 c] w'))
 (R (Ending.returned (Value.tuple #[Value.pointer x, Value.slice p_1 n_1 c, Value.bool true])) w')
theorem vc_aclplay (p : Option Addr) (n : Nat) (c : Nat) (w : World) (R : Ending → World → Prop) (h : VC_aclplay p n c w R) : Calls Tryz.prog 22 ([Value.slice
    p n c] : List Value).toArray w R := by
  have e : execR2 { P := Tryz.prog, loops := [(4, [(7, Ck.int IntKind.i64), (6, Ck.slice)])], pur := pur1, tails := [], joins := [], boxes := [] } Tryz.f22.results.toList R (Tryz.f22.body.getD .skip) (initF [Value.slice
    p n c] (Tryz.f22.ntmps - ([Value.slice p n c] : List Value).length)) w = VC_aclplay p n c w R := by kernel_rfl
  have hb : Tryz.f22.body = some (Tryz.f22.body.getD .skip) := by kernel_rfl
  exact calls_of_exec2' (P := Tryz.prog) (fn := Tryz.f22) (c := Tryz.f22.body.getD .skip) (args := [Value.slice p n
    c]) (w := w) (R := R) pur1_ok Tryz.func22 hb e h

end Go.Proofs.YtgmmoghagpmpfaaGreatDoor

/- The formulas of functions by the symbolic evaluator, and that each gives the call's contract. Written by a program (gen.py). No condition. -/
namespace Go.Proofs.YtgmmoghagpmpfaaGreatDoor
set_option maxRecDepth 100000
set_option linter.unusedVariables false

def VC_acldo (b : Nat) (p : Option Addr) (n : Nat) (c : Nat) (k : Int) (q : Option Addr) (m : Nat) (d : Nat) (a : Int) (w : World) (R : Ending → World → Prop) : Prop :=
 ∀ (n_1 : Nat) (W : World),
 Loc w.heap.size [Blk.mk n_1 50 [Value.int IntKind.u8 k, Value.slice q m d, Value.int IntKind.i64 a] 2] w W →
 CallsS Tryz.prog 28 #[Value.slice q m d] W fun (e : Ending) (w' : World) =>
 ∃ (p_1 : Option Addr),
 ∃ (n_2 : Nat),
 ∃ (c_1 : Nat),
 e = Ending.returned (Value.slice p_1 n_2 c_1) ∧
 KeptL [n_1] W w' ∧
 bsp (k.tmod 8 == 0)
 (CallsS Tryz.prog 32 #[Value.slice p_1 n_2 c_1] w' fun (e : Ending) (w'_1 : World) =>
 ∃ (x : ByteArray),
 e = Ending.returned (Value.string x) ∧
 KeptL [n_1] w' w'_1 ∧
 CallsS Tryz.prog 53 #[Value.slice p n c, Value.string x] w'_1 fun (e : Ending) (w' : World) =>
 ∃ (p : Option Addr),
 ∃ (n : Nat),
 ∃ (c : Nat),
 ∃ (x : Int),
 e = Ending.returned (Value.tuple #[Value.slice p n c, Value.int IntKind.i64 x]) ∧
 KeptL [n_1] w'_1 w' ∧
 CallsS Tryz.prog 32 #[Value.slice p_1 n_2 c_1] w' fun (e : Ending) (w'_2 : World) =>
 ∃ (x_1 : ByteArray),
 e = Ending.returned (Value.string x_1) ∧
 KeptL [n_1] w' w'_2 ∧
 CallsS Tryz.prog 31 #[Value.pointer (some (Addr.mk b 0 none)), Value.string x_1] w'_2
 fun (e : Ending) (w' : World) =>
 ∃ (x_2 : Int),
 e = Ending.returned (Value.int IntKind.i64 x_2) ∧
 KeptL [n_1] w'_2 w' ∧
 R (Ending.returned (Value.tuple #[Value.slice p n c, Value.bool (x_2 == x)])) w')
 (bsp (k.tmod 8 == 1)
 (CallsS Tryz.prog 32 #[Value.slice p_1 n_2 c_1] w' fun (e : Ending) (w'_1 : World) =>
 ∃ (x : ByteArray),
 e = Ending.returned (Value.string x) ∧
 KeptL [n_1] w' w'_1 ∧
 CallsS Tryz.prog 54 #[Value.slice p n c, Value.string x] w'_1 fun (e : Ending) (w' : World) =>
 ∃ (p : Option Addr),
 ∃ (n : Nat),
 ∃ (c : Nat),
 ∃ (x : Int),
 e = Ending.returned (Value.tuple #[Value.slice p n c, Value.int IntKind.i64 x]) ∧
 KeptL [n_1] w'_1 w' ∧
 CallsS Tryz.prog 32 #[Value.slice p_1 n_2 c_1] w' fun (e : Ending) (w'_2 : World) =>
 ∃ (x_1 : ByteArray),
 e = Ending.returned (Value.string x_1) ∧
 KeptL [n_1] w' w'_2 ∧
 CallsS Tryz.prog 26 #[Value.pointer (some (Addr.mk b 0 none)), Value.string x_1] w'_2
 fun (e : Ending) (w' : World) =>
 ∃ (x_2 : Int),
 e = Ending.returned (Value.int IntKind.i64 x_2) ∧
 KeptL [n_1] w'_2 w' ∧
 R (Ending.returned (Value.tuple #[Value.slice p n c, Value.bool (x_2 == x)])) w')
 (bsp (k.tmod 8 == 6)
 (bsp (k.tmod 8 == 6)
 (∀ (W : World),
 Loc w.heap.size [Blk.mk n_1 50 [Value.int IntKind.u8 k, Value.slice q m d, Value.int IntKind.i64 a] 0] w'
 W →
 ∃ (S : World → Prop),
 S W ∧
 ∃ (x : Int),
 (∀ (w' : World), S w' → w'.cell? (Addr.mk n_1 (0 + 2) none) = some (Value.int IntKind.i64 x)) ∧
 CallsS Tryz.prog 32 #[Value.slice p_1 n_2 c_1] W fun (e : Ending) (w' : World) =>
 ∃ (x_1 : ByteArray),
 e = Ending.returned (Value.string x_1) ∧
 S w' ∧
 CallsS Tryz.prog 55 #[Value.slice p n c, Value.string x_1, Value.int IntKind.i64 x] w'
 fun (e : Ending) (w' : World) =>
 ∃ (p : Option Addr),
 ∃ (n : Nat),
 ∃ (c : Nat),
 ∃ (x : Int),
 e = Ending.returned (Value.tuple #[Value.slice p n c, Value.int IntKind.i64 x]) ∧
 KeptL [n_1] W w' ∧
 ∀ (W : World),
 Loc w.heap.size
 [Blk.mk n_1 50 [Value.int IntKind.u8 k, Value.slice q m d, Value.int IntKind.i64 a] 0]
 w' W →
 ∃ (S : World → Prop),
 S W ∧
 ∃ (x_2 : Int),
 (∀ (w' : World),
 S w' → w'.cell? (Addr.mk n_1 (0 + 2) none) = some (Value.int IntKind.i64 x_2)) ∧
 CallsS Tryz.prog 32 #[Value.slice p_1 n_2 c_1] W fun (e : Ending) (w' : World) =>
 ∃ (x_3 : ByteArray),
 e = Ending.returned (Value.string x_3) ∧
 S w' ∧
 CallsS Tryz.prog 33
 #[Value.pointer (some (Addr.mk b 0 none)),
 Value.agg #[Value.string x_3, Value.int IntKind.i64 x_2]]
 w' fun (e : Ending) (w' : World) =>
 ∃ (x_4 : Int),
 e = Ending.returned (Value.int IntKind.i64 x_4) ∧
 KeptL [n_1] W w' ∧
 R (Ending.returned (Value.tuple #[Value.slice p n c, Value.bool (x_4 == x)]))
 w')
 (CallsS Tryz.prog 29 #[Value.slice p n c, Value.slice p_1 n_2 c_1] w' fun (e : Ending) (w'_1 : World) =>
 ∃ (p : Option Addr),
 ∃ (n : Nat),
 ∃ (c : Nat),
 ∃ (p_2 : Option Addr),
 ∃ (n_3 : Nat),
 ∃ (c_2 : Nat),
 ∃ (x : Int),
 e =
 Ending.returned
 (Value.tuple #[Value.slice p n c, Value.slice p_2 n_3 c_2, Value.int IntKind.i64 x]) ∧
 KeptL [n_1] w' w'_1 ∧
 CallsS Tryz.prog 27 #[Value.pointer (some (Addr.mk b 0 none)), Value.slice p_1 n_2 c_1] w'_1
 fun (e : Ending) (w' : World) =>
 ∃ (p_3 : Option Addr),
 ∃ (n_4 : Nat),
 ∃ (c_3 : Nat),
 ∃ (x_1 : Int),
 e = Ending.returned (Value.tuple #[Value.slice p_3 n_4 c_3, Value.int IntKind.i64 x_1]) ∧
 KeptL [n_1] w'_1 w' ∧
 bsp (x_1 != x || (↑n_4 : Int) != (↑n_3 : Int))
 (R (Ending.returned (Value.tuple #[Value.slice p n c, Value.bool false])) w')
 (∃ (I : List Value → World → Prop),
 ∃ (m_1 : List Value → World → Nat),
 I [Value.int IntKind.i64 0] w' ∧
 ∀ (x : Int) (w' : World),
 I [Value.int IntKind.i64 x] w' →
 Loc w.heap.size
 [Blk.mk n_1 50 [Value.int IntKind.u8 k, Value.slice q m d, Value.int IntKind.i64 a]
 0]
 w' w' →
 bsp (decide (x < (↑n_4 : Int)))
 (nn true p_3 fun (b o : Nat) =>
 (0 ≤ x ∧ x < (↑n_4 : Int)) ∧
 ∃ (x_2 : ByteArray),
 ∃ (x_3 : Int),
 (∀ (W : World),
 Loc w.heap.size
 [Blk.mk n_1 50
 [Value.int IntKind.u8 k, Value.slice q m d, Value.int IntKind.i64 a] 0]
 w' W →
 AtL W b (o + x.toNat * 2) [Value.string x_2, Value.int IntKind.i64 x_3]) ∧
 nn true p_1 fun (b o : Nat) =>
 (0 ≤ x ∧ x < (↑n_2 : Int)) ∧
 ∃ (x_4 : ByteArray),
 (∀ (W : World),
 Loc w.heap.size
 [Blk.mk n_1 50
 [Value.int IntKind.u8 k, Value.slice q m d, Value.int IntKind.i64 a]
 0]
 w' W →
 W.cell? (Addr.mk b (o + x.toNat) none) = some (Value.string x_4)) ∧
 nn true p_2 fun (b o : Nat) =>
 (0 ≤ x ∧ x < (↑n_3 : Int)) ∧
 ∃ (x_5 : Int),
 (∀ (W : World),
 Loc w.heap.size
 [Blk.mk n_1 50
 [Value.int IntKind.u8 k, Value.slice q m d,
 Value.int IntKind.i64 a]
 0]
 w' W →
 W.cell? (Addr.mk b (o + x.toNat) none) =
 some (Value.int IntKind.i64 x_5)) ∧
 ∃ (r : Bool),
 EqP Tryz.prog 64
 (Value.agg #[Value.string x_2, Value.int IntKind.i64 x_3])
 (Value.agg #[Value.string x_4, Value.int IntKind.i64 x_5]) r ∧
 bsp (!r)
 (∀ (W : World),
 Loc w.heap.size
 [Blk.mk n_1 50
 [Value.int IntKind.u8 k, Value.slice q m d,
 Value.int IntKind.i64 a]
 0]
 w' W →
 R
 (Ending.returned
 (Value.tuple #[Value.slice p n c, Value.bool false]))
 W)
 (∀ (W : World),
 Loc w.heap.size
 [Blk.mk n_1 50
 [Value.int IntKind.u8 k, Value.slice q m d,
 Value.int IntKind.i64 a]
 0]
 w' W →
 I [Value.int IntKind.i64 (IntKind.i64.wrap (x + 1))] W ∧
 m_1 [Value.int IntKind.i64 (IntKind.i64.wrap (x + 1))] W <
 m_1 [Value.int IntKind.i64 x] w'))
 (R (Ending.returned (Value.tuple #[Value.slice p n c, Value.bool true])) w'))))
 (bsp (k.tmod 8 == 7)
 (∀ (W : World),
 Loc w.heap.size [Blk.mk n_1 50 [Value.int IntKind.u8 k, Value.slice q m d, Value.int IntKind.i64 a] 0] w'
 W →
 ∃ (S : World → Prop),
 S W ∧
 ∃ (x : Int),
 (∀ (w' : World), S w' → w'.cell? (Addr.mk n_1 (0 + 2) none) = some (Value.int IntKind.i64 x)) ∧
 CallsS Tryz.prog 32 #[Value.slice p_1 n_2 c_1] W fun (e : Ending) (w' : World) =>
 ∃ (x_1 : ByteArray),
 e = Ending.returned (Value.string x_1) ∧
 S w' ∧
 CallsS Tryz.prog 55 #[Value.slice p n c, Value.string x_1, Value.int IntKind.i64 x] w'
 fun (e : Ending) (w' : World) =>
 ∃ (p : Option Addr),
 ∃ (n : Nat),
 ∃ (c : Nat),
 ∃ (x : Int),
 e = Ending.returned (Value.tuple #[Value.slice p n c, Value.int IntKind.i64 x]) ∧
 KeptL [n_1] W w' ∧
 ∀ (W : World),
 Loc w.heap.size
 [Blk.mk n_1 50 [Value.int IntKind.u8 k, Value.slice q m d, Value.int IntKind.i64 a] 0]
 w' W →
 ∃ (S : World → Prop),
 S W ∧
 ∃ (x_2 : Int),
 (∀ (w' : World),
 S w' → w'.cell? (Addr.mk n_1 (0 + 2) none) = some (Value.int IntKind.i64 x_2)) ∧
 CallsS Tryz.prog 32 #[Value.slice p_1 n_2 c_1] W fun (e : Ending) (w' : World) =>
 ∃ (x_3 : ByteArray),
 e = Ending.returned (Value.string x_3) ∧
 S w' ∧
 CallsS Tryz.prog 33
 #[Value.pointer (some (Addr.mk b 0 none)),
 Value.agg #[Value.string x_3, Value.int IntKind.i64 x_2]]
 w' fun (e : Ending) (w' : World) =>
 ∃ (x_4 : Int),
 e = Ending.returned (Value.int IntKind.i64 x_4) ∧
 KeptL [n_1] W w' ∧
 R (Ending.returned (Value.tuple #[Value.slice p n c, Value.bool (x_4 == x)]))
 w')
 (CallsS Tryz.prog 29 #[Value.slice p n c, Value.slice p_1 n_2 c_1] w' fun (e : Ending) (w'_1 : World) =>
 ∃ (p : Option Addr),
 ∃ (n : Nat),
 ∃ (c : Nat),
 ∃ (p_2 : Option Addr),
 ∃ (n_3 : Nat),
 ∃ (c_2 : Nat),
 ∃ (x : Int),
 e =
 Ending.returned
 (Value.tuple #[Value.slice p n c, Value.slice p_2 n_3 c_2, Value.int IntKind.i64 x]) ∧
 KeptL [n_1] w' w'_1 ∧
 CallsS Tryz.prog 27 #[Value.pointer (some (Addr.mk b 0 none)), Value.slice p_1 n_2 c_1] w'_1
 fun (e : Ending) (w' : World) =>
 ∃ (p_3 : Option Addr),
 ∃ (n_4 : Nat),
 ∃ (c_3 : Nat),
 ∃ (x_1 : Int),
 e = Ending.returned (Value.tuple #[Value.slice p_3 n_4 c_3, Value.int IntKind.i64 x_1]) ∧
 KeptL [n_1] w'_1 w' ∧
 bsp (x_1 != x || (↑n_4 : Int) != (↑n_3 : Int))
 (R (Ending.returned (Value.tuple #[Value.slice p n c, Value.bool false])) w')
 (∃ (I : List Value → World → Prop),
 ∃ (m_1 : List Value → World → Nat),
 I [Value.int IntKind.i64 0] w' ∧
 ∀ (x : Int) (w' : World),
 I [Value.int IntKind.i64 x] w' →
 Loc w.heap.size
 [Blk.mk n_1 50 [Value.int IntKind.u8 k, Value.slice q m d, Value.int IntKind.i64 a]
 0]
 w' w' →
 bsp (decide (x < (↑n_4 : Int)))
 (nn true p_3 fun (b o : Nat) =>
 (0 ≤ x ∧ x < (↑n_4 : Int)) ∧
 ∃ (x_2 : ByteArray),
 ∃ (x_3 : Int),
 (∀ (W : World),
 Loc w.heap.size
 [Blk.mk n_1 50
 [Value.int IntKind.u8 k, Value.slice q m d, Value.int IntKind.i64 a] 0]
 w' W →
 AtL W b (o + x.toNat * 2) [Value.string x_2, Value.int IntKind.i64 x_3]) ∧
 nn true p_1 fun (b o : Nat) =>
 (0 ≤ x ∧ x < (↑n_2 : Int)) ∧
 ∃ (x_4 : ByteArray),
 (∀ (W : World),
 Loc w.heap.size
 [Blk.mk n_1 50
 [Value.int IntKind.u8 k, Value.slice q m d, Value.int IntKind.i64 a]
 0]
 w' W →
 W.cell? (Addr.mk b (o + x.toNat) none) = some (Value.string x_4)) ∧
 nn true p_2 fun (b o : Nat) =>
 (0 ≤ x ∧ x < (↑n_3 : Int)) ∧
 ∃ (x_5 : Int),
 (∀ (W : World),
 Loc w.heap.size
 [Blk.mk n_1 50
 [Value.int IntKind.u8 k, Value.slice q m d,
 Value.int IntKind.i64 a]
 0]
 w' W →
 W.cell? (Addr.mk b (o + x.toNat) none) =
 some (Value.int IntKind.i64 x_5)) ∧
 ∃ (r : Bool),
 EqP Tryz.prog 64
 (Value.agg #[Value.string x_2, Value.int IntKind.i64 x_3])
 (Value.agg #[Value.string x_4, Value.int IntKind.i64 x_5]) r ∧
 bsp (!r)
 (∀ (W : World),
 Loc w.heap.size
 [Blk.mk n_1 50
 [Value.int IntKind.u8 k, Value.slice q m d,
 Value.int IntKind.i64 a]
 0]
 w' W →
 R
 (Ending.returned
 (Value.tuple #[Value.slice p n c, Value.bool false]))
 W)
 (∀ (W : World),
 Loc w.heap.size
 [Blk.mk n_1 50
 [Value.int IntKind.u8 k, Value.slice q m d,
 Value.int IntKind.i64 a]
 0]
 w' W →
 I [Value.int IntKind.i64 (IntKind.i64.wrap (x + 1))] W ∧
 m_1 [Value.int IntKind.i64 (IntKind.i64.wrap (x + 1))] W <
 m_1 [Value.int IntKind.i64 x] w'))
 (R (Ending.returned (Value.tuple #[Value.slice p n c, Value.bool true])) w'))))))
theorem vc_acldo (b : Nat) (p : Option Addr) (n : Nat) (c : Nat) (k : Int) (q : Option Addr) (m : Nat) (d : Nat) (a : Int) (w : World) (R : Ending → World → Prop) (h : VC_acldo b p n c k q m d a w R) : Calls Tryz.prog 20 ([Value.pointer
    (some { block := b, off := 0 }),
  Value.slice p n c,
  Value.agg #[Value.int IntKind.u8 k, Value.slice q m d, Value.int IntKind.i64 a]] : List Value).toArray w R := by
  have e : execR2 { P := Tryz.prog, loops := [(18, [(20, Ck.int IntKind.i64)])], pur := pur1, tails := [(11, 2), (12, 3)], joins := [], boxes := [] } Tryz.f20.results.toList R (Tryz.f20.body.getD .skip) (initF [Value.pointer
    (some { block := b, off := 0 }),
  Value.slice p n c,
  Value.agg
    #[Value.int IntKind.u8 k, Value.slice q m d,
      Value.int IntKind.i64
        a]] (Tryz.f20.ntmps - ([Value.pointer (some { block := b, off := 0 }), Value.slice p n c,
  Value.agg
    #[Value.int IntKind.u8 k, Value.slice q m d,
      Value.int IntKind.i64 a]] : List Value).length)) w = VC_acldo b p n c k q m d a w R := by kernel_rfl
  have hb : Tryz.f20.body = some (Tryz.f20.body.getD .skip) := by kernel_rfl
  exact calls_of_exec2' (P := Tryz.prog) (fn := Tryz.f20) (c := Tryz.f20.body.getD .skip) (args := [Value.pointer
    (some { block := b, off := 0 }),
  Value.slice p n c,
  Value.agg
    #[Value.int IntKind.u8 k, Value.slice q m d, Value.int IntKind.i64 a]]) (w := w) (R := R) pur1_ok Tryz.func20 hb e h

end Go.Proofs.YtgmmoghagpmpfaaGreatDoor

/- Chapter 27: the law's names, first, do: an operation on the module's table and on the reference's. The library's variable MaxLen holds a number. -/
namespace Go.Proofs.YtgmmoghagpmpfaaGreatDoor
open Go.RowKit Go.Sort Go.Maps

/-- At most 4 names of at most 100 bytes. -/
def nmL (l : List ByteArray) : List ByteArray := (l.take 4).map fun s => s.extract 0 (if (100 : Int) < (s.size : Int) then 100 else (s.size : Int)).toNat
theorem nmL_len (l : List ByteArray) : (nmL l).length ≤ 4 := by unfold nmL; rw [List.length_map, List.length_take]; omega
theorem nmL_size {l : List ByteArray} {s : ByteArray} (h : s ∈ nmL l) : s.size ≤ 100 := by
  obtain ⟨t, _, rfl⟩ := List.mem_map.1 h
  rw [ByteArray.size_extract]
  split <;> omega
theorem fst_size {l : List ByteArray} : (fstL (nmL l)).size ≤ 100 := by
  unfold fstL
  cases h : nmL l with
  | nil => decide
  | cons x r => exact nmL_size (l := l) (by rw [h]; exact List.mem_cons_self)
theorem fst_mem {l : List ByteArray} {s : ByteArray} (h : l[0]? = some s) : fstL l = s := by
  cases l with
  | nil => cases h
  | cons x r => simpa [fstL] using h
section
variable {w : World} {B b mb : Nat} {m : TM} {A : TA}
set_option maxHeartbeats 1000000 in
theorem aclnames_any (l : List ByteArray) (p : Option Addr) (c : Nat) (w : World) (hS : StrP w p l) (hl : l.length ≤ 4611686018427387904) :
    Calls Tryz.prog 28 #[.slice p l.length c] w fun e w' => (∃ p' c', e = .returned (.slice p' (nmL l).length c') ∧ w'.ownsRow w.heap.size 9 1 (.slice p' (nmL l).length c') (nmL l).length ((nmL l).map .string)) ∧ K0 w w' := by
  refine vc_aclnames p l.length c w _ ⟨fun vs w' => ∃ (i : Nat) (q : Option Addr) (d : Nat), vs = [.int .i64 (i : Int), .slice q (nmL (l.take i)).length d] ∧ i ≤ l.length ∧ i ≤ 4 ∧ w'.ownsRow w.heap.size 9 1 (.slice q (nmL (l.take i)).length d) (nmL (l.take i)).length ((nmL (l.take i)).map .string) ∧ K0 w w',
    fun vs _ => (match vs with | .int _ a :: _ => l.length - a.toNat | _ => 0), ⟨0, none, 0, rfl, by omega, by omega, World.ownsRow_nil _ _ _ _, .refl _ _⟩, ?_⟩
  rintro xi p1 n1 c1 w1 ⟨i, q, d, hv, hi, hi4, ho, k1⟩
  simp only [List.cons.injEq, Value.int.injEq, Value.slice.injEq, true_and, and_true] at hv
  obtain ⟨rfl, rfl, rfl, rfl⟩ := hv
  have hnl := nmL_len (l.take i)
  refine bsp_intro (fun hlt W hW => ?_) (fun hge => ?_)
  · have hlt : i < l.length ∧ i < 4 := by simp at hlt; omega
    have kW : K0 w1 W := hW.kk rfl
    obtain ⟨s, sb, so, hs, hp, hcs⟩ := ((hS.k0 k1).k0 kW).get hlt.1
    rw [Int.toNat_natCast]
    have hsn : nmL (l.take (i + 1)) = nmL (l.take i) ++ [s.extract 0 (if (100 : Int) < (s.size : Int) then 100 else (s.size : Int)).toNat] := by
      unfold nmL
      rw [List.take_take, List.take_take, Nat.min_eq_right (by omega), Nat.min_eq_right (by omega), take_snoc hs, List.map_append]
      rfl
    refine ⟨fun w' => K0 W w', .refl _ _, nn_is hp ⟨⟨by omega, by omega⟩, s, fun w' k => k.cell' hcs (fun h => h), nn_is hp ⟨⟨by omega, by omega⟩, s, fun w' k => k.cell' hcs (fun h => h), ⟨by split <;> omega, by split <;> omega⟩, fun n2 w2 h2 => ?_⟩⟩⟩
    have k2 : K0 W w2 := h2.kp _
    have ho2 := owns_kp ho (kW.trans k2) (fun _ _ h => h)
    refine ⟨_, _, _, ho2, rfl, src_block h2.block (fun u hu => by simp at hu; rw [hu]; rfl), by omega, by omega, ((k1.trans kW).trans k2).size, fun p' c' w3 ho3 hg3 _ => ?_⟩
    have kg := kp_grown hg3
    have k3 : K0 w w3 := ((k1.trans kW).trans k2).fresh kg (fun j hj e => by have := own_ge ho2 e; omega)
    rw [inc64 (by omega)]
    refine ⟨⟨Nat.le_trans k2.size kg.size, fun _ hm => by cases hm⟩, ⟨i + 1, p', c', by rw [hsn]; simp, by omega, by omega, ?_, k3⟩, by simp only [Int.toNat_natCast]; omega⟩
    rw [hsn, List.length_append, List.map_append]
    exact ho3
  · have hge : l.length ≤ i ∨ 4 ≤ i := by simp at hge; omega
    have e : nmL (l.take i) = nmL l := by
      unfold nmL
      rw [List.take_take]
      rcases hge with h | h
      · have : i = l.length := by omega
        subst this
        rw [Nat.min_eq_right (by omega), List.take_length, List.take_of_length_le (by omega)]
      · rw [Nat.min_eq_left (by omega)]
    rw [e] at ho ⊢
    exact ⟨⟨p1, c1, rfl, ho⟩, k1⟩
theorem aclfirst_any (l : List ByteArray) (p : Option Addr) (c : Nat) (w : World) (hS : StrP w p l) :
    Calls Tryz.prog 32 #[.slice p l.length c] w fun e w' => e = .returned (.string (fstL l)) ∧ w' = w := by
  refine vc_aclfirst p l.length c w _ (bsp_intro (fun h0 => ?_) (fun h0 => ?_))
  · have h0 : l = [] := List.eq_nil_of_length_eq_zero (by simp at h0; simp [h0])
    subst h0
    exact ⟨rfl, rfl⟩
  · have h0 : 0 < l.length := by
      rcases Nat.eq_zero_or_pos l.length with e | e
      · rw [e] at h0; simp at h0
      · exact e
    obtain ⟨s, sb, so, hs, hp, hcs⟩ := hS.get h0
    exact nn_is hp ⟨⟨by omega, by omega⟩, s, hcs, by rw [fst_mem hs], rfl⟩
theorem asR_zip (A : TA) (l : List ByteArray) : (l.zip (asR A l).2.1).length = (asR A l).2.1.length := by
  unfold asR
  split
  · simp
  split
  · simp
  rename_i hnd
  split
  · simp
  rename_i hE
  have := asN_len (A := A) (r := l) (Classical.byContradiction hnd) (Classical.byContradiction hE)
  rw [List.length_zip]
  show min l.length (asN A l).length = (asN A l).length
  omega
set_option maxRecDepth 100000 in
set_option maxHeartbeats 8000000 in
theorem acldo_any {p : Option Addr} {R : List Rx} {A2 : TA} (h : Tq w B b mb m A) (hT : RowT w p R A2) (hwf : WF A2) (hn : A2.length ≤ 4096) (hsm : Sm 1000000 A2) (c : Nat) (hc : A2.length ≤ c) (x : OpY) (hx : OpR27 w x) (hG : GW w) :
    Calls Tryz.prog 20 #[.pointer (some ⟨b, 0, none⟩), .slice p A2.length c, .agg #[.int .u8 x.k, .slice x.p x.gs.length x.c, .int .i64 x.a]] w fun e w' =>
      (∃ p' c' ok, e = .returned (.tuple #[.slice p' (opX A2 x.k (nmL x.gs) x.a).length c', .bool ok]) ∧ RowU w' p' c' (opX A2 x.k (nmL x.gs) x.a) ∧ (A = A2 → ok = true)) ∧ ∃ m', Ts w w' B b mb m (opX A x.k (nmL x.gs) x.a) m' := by
  refine vc_acldo b p A2.length c x.k x.p x.gs.length x.c x.a w _ (fun n1 W hW => ?_)
  have kW : K0 w W := hW.kk rfl
  rw [show x.k.tmod 8 = x.k % 8 from Int.tmod_eq_emod_of_nonneg hx.k.1]
  have hcn : W.heap[n1]? = some (.cells #[.int .u8 x.k, .slice x.p x.gs.length x.c, .int .i64 x.a] 50 (0, 0)) := hW.cells 0 rfl
  have hng : w.heap.size ≤ n1 := hW.fresh 0 rfl rfl
  have hN : ∀ {wa wb : World}, Kp (Tb mb m) wa wb → KeptL [n1] wa wb := fun k => .of_kp k (fun n hn e => by
    simp only [List.mem_cons, List.not_mem_nil, or_false] at hn
    have := (h.z.tb e).2.1
    omega)
  refine ⟨(aclnames_any x.gs x.p x.c W (hx.str.k0 kW) hx.hl).mono fun e w1 ⟨⟨pg, cg, he, hog⟩, k1⟩ => ⟨_, _, _, he, .of_k0 k1, ?_⟩⟩
  have k01 : K0 w w1 := kW.trans k1
  have hS : StrP w1 pg (nmL x.gs) := strP_own hog (Nat.le_refl _)
  have hTy : TyN 9 w1 pg := TyN.own hog
  have hle := own_le hog
  have hsz : ∀ y ∈ R, y.s.size ≤ 1000000 := fun y hy => by
    obtain ⟨j, hj⟩ := List.getElem?_of_mem hy
    have : y.s.size ≤ 80 := name_size (hwf.nm _ (List.mem_of_getElem? (hT.at hj)))
    omega
  have hgl := nmL_len x.gs
  have hgz : ∀ s ∈ nmL x.gs, s.size ≤ 1073741824 := fun s hs => by have := nmL_size hs; omega
  have hfz := fst_size (l := x.gs)
  generalize hGe : nmL x.gs = G at *
  have hfin : ∀ {wx : World}, K0 w wx → StrP w1 pg G → K0 w1 wx → Calls Tryz.prog 32 #[.slice pg G.length cg] wx fun e w' => e = .returned (.string (fstL G)) ∧ w' = wx := fun {wx} _ hS k => aclfirst_any G pg cg wx (hS.k0 k)
  have p67 : x.k % 8 = 6 ∨ x.k % 8 = 7 → opX A2 x.k G x.a = (rmA A2 (fstL G) x.a).1 ∧ opX A x.k G x.a = (rmA A (fstL G) x.a).1 := fun e => by
    unfold opX
    rw [if_neg (by omega), if_neg (by omega), if_pos e, if_neg (by omega), if_neg (by omega), if_pos e]
    exact ⟨rfl, rfl⟩
  refine bsp_intro (fun hb => ?_) (fun hb => bsp_intro (fun hb1 => ?_) (fun hb1 => bsp_intro (fun hb6 => bsp_intro (fun _ W2 hW2 => ?_) (fun h => by rw [hb6] at h; cases h)) (fun hb6 => bsp_intro (fun hb7 W2 hW2 => ?_) (fun hb7 => ?_))))
  · have hb : x.k % 8 = 0 := by simpa using hb
    have e1 : opX A2 x.k G x.a = (opA A2 (fstL G)).1 := by unfold opX; rw [if_pos hb]
    have e2 : opX A x.k G x.a = (opA A (fstL G)).1 := by unfold opX; rw [if_pos hb]
    rw [e1, e2]
    refine ⟨(aclfirst_any G pg cg w1 hS).mono fun e w2 ⟨he, hw⟩ => ⟨_, he, by rw [hw]; exact .refl _ _, ?_⟩⟩
    subst hw
    refine ⟨(acxopen_any (hT.k0 k01) hwf hn c hc (fstL G) (by omega) hsz).mono fun e w3 ⟨⟨p3, c3, he, hU⟩, k3⟩ => ⟨_, _, _, _, he, .of_k0 k3, ?_⟩⟩
    refine ⟨(aclfirst_any G pg cg w3 (hS.k0 k3)).mono fun e w4 ⟨he, hw⟩ => ⟨_, he, by rw [hw]; exact .refl _ _, ?_⟩⟩
    subst hw
    have k03 := k01.trans k3
    refine ⟨(acopen_any (h.k0 k03) (fstL G) (by omega) (gk0 hG k03)).mono fun e w5 ⟨he, m', hTs⟩ => ⟨_, he, hN hTs.k, ⟨p3, c3, _, rfl, hU.tb (h.k0 k03).z hTs.k, fun e => by rw [e]; simp⟩, m', (h.same k03).trans hTs⟩⟩
  · have hb : ¬ x.k % 8 = 0 := by simpa using hb
    have hb1 : x.k % 8 = 1 := by simpa using hb1
    have e1 : opX A2 x.k G x.a = (clA A2 (fstL G)).1 := by unfold opX; rw [if_neg hb, if_pos hb1]
    have e2 : opX A x.k G x.a = (clA A (fstL G)).1 := by unfold opX; rw [if_neg hb, if_pos hb1]
    rw [e1, e2]
    refine ⟨(aclfirst_any G pg cg w1 hS).mono fun e w2 ⟨he, hw⟩ => ⟨_, he, by rw [hw]; exact .refl _ _, ?_⟩⟩
    subst hw
    refine ⟨(acxclose_any (hT.k0 k01) hwf hn c hc (fstL G)).mono fun e w3 ⟨⟨p3, c3, he, hU⟩, k3⟩ => ⟨_, _, _, _, he, .of_k0 k3, ?_⟩⟩
    refine ⟨(aclfirst_any G pg cg w3 (hS.k0 k3)).mono fun e w4 ⟨he, hw⟩ => ⟨_, he, by rw [hw]; exact .refl _ _, ?_⟩⟩
    subst hw
    have k03 := k01.trans k3
    refine ⟨(acclose_any (h.k0 k03) (fstL G) (by omega)).mono fun e w5 ⟨he, m', hTs⟩ => ⟨_, he, hN hTs.k, ⟨p3, c3, _, rfl, hU.tb (h.k0 k03).z hTs.k, fun e => by rw [e]; simp⟩, m', (h.same k03).trans hTs⟩⟩
  · have h6 : x.k % 8 = 6 ∨ x.k % 8 = 7 := .inl (by simpa using hb6)
    rw [(p67 h6).1, (p67 h6).2]
    have k2 : K0 w1 W2 := hW2.kk rfl
    have hc2 : W2.heap[n1]? = some (.cells #[.int .u8 x.k, .slice x.p x.gs.length x.c, .int .i64 x.a] 50 (0, 0)) := hW2.cells 0 rfl
    refine ⟨fun w' => K0 W2 w', .refl _ _, x.a, fun w' k => cell_at (k.blk hc2 (fun h => h)) rfl, ⟨(aclfirst_any G pg cg W2 (hS.k0 k2)).mono fun e w3 ⟨he, hw⟩ => ⟨_, he, by rw [hw]; exact .refl _ _, ?_⟩⟩⟩
    subst hw
    refine ⟨(acxremove_any (hT.k0 (k01.trans k2)) hwf hn hsm c hc (fstL G) x.a).mono fun e w4 ⟨⟨p3, c3, he, hU⟩, k4⟩ => ⟨_, _, _, _, he, .of_k0 k4, fun W5 hW5 => ?_⟩⟩
    have k5 : K0 w4 W5 := hW5.kk rfl
    have hc5 : W5.heap[n1]? = some (.cells #[.int .u8 x.k, .slice x.p x.gs.length x.c, .int .i64 x.a] 50 (0, 0)) := hW5.cells 0 rfl
    refine ⟨fun w' => K0 W5 w', .refl _ _, x.a, fun w' k => cell_at (k.blk hc5 (fun h => h)) rfl, ⟨(aclfirst_any G pg cg W5 (hS.k0 ((k2.trans k4).trans k5))).mono fun e w6 ⟨he, hw⟩ => ⟨_, he, by rw [hw]; exact .refl _ _, ?_⟩⟩⟩
    subst hw
    have k06 := ((k01.trans k2).trans k4).trans k5
    exact ⟨(acremove_any (h.k0 k06) (fstL G) (by omega) x.a hx.a).mono fun e w7 ⟨he, m', hTs⟩ => ⟨_, he, hN hTs.k, ⟨p3, c3, _, rfl, (hU.k0 k5).tb (h.k0 k06).z hTs.k, fun e => by rw [e]; simp⟩, m', (h.same k06).trans hTs⟩⟩
  · have h6 : x.k % 8 = 6 ∨ x.k % 8 = 7 := .inr (by simpa using hb7)
    rw [(p67 h6).1, (p67 h6).2]
    have k2 : K0 w1 W2 := hW2.kk rfl
    have hc2 : W2.heap[n1]? = some (.cells #[.int .u8 x.k, .slice x.p x.gs.length x.c, .int .i64 x.a] 50 (0, 0)) := hW2.cells 0 rfl
    refine ⟨fun w' => K0 W2 w', .refl _ _, x.a, fun w' k => cell_at (k.blk hc2 (fun h => h)) rfl, ⟨(aclfirst_any G pg cg W2 (hS.k0 k2)).mono fun e w3 ⟨he, hw⟩ => ⟨_, he, by rw [hw]; exact .refl _ _, ?_⟩⟩⟩
    subst hw
    refine ⟨(acxremove_any (hT.k0 (k01.trans k2)) hwf hn hsm c hc (fstL G) x.a).mono fun e w4 ⟨⟨p3, c3, he, hU⟩, k4⟩ => ⟨_, _, _, _, he, .of_k0 k4, fun W5 hW5 => ?_⟩⟩
    have k5 : K0 w4 W5 := hW5.kk rfl
    have hc5 : W5.heap[n1]? = some (.cells #[.int .u8 x.k, .slice x.p x.gs.length x.c, .int .i64 x.a] 50 (0, 0)) := hW5.cells 0 rfl
    refine ⟨fun w' => K0 W5 w', .refl _ _, x.a, fun w' k => cell_at (k.blk hc5 (fun h => h)) rfl, ⟨(aclfirst_any G pg cg W5 (hS.k0 ((k2.trans k4).trans k5))).mono fun e w6 ⟨he, hw⟩ => ⟨_, he, by rw [hw]; exact .refl _ _, ?_⟩⟩⟩
    subst hw
    have k06 := ((k01.trans k2).trans k4).trans k5
    exact ⟨(acremove_any (h.k0 k06) (fstL G) (by omega) x.a hx.a).mono fun e w7 ⟨he, m', hTs⟩ => ⟨_, he, hN hTs.k, ⟨p3, c3, _, rfl, (hU.k0 k5).tb (h.k0 k06).z hTs.k, fun e => by rw [e]; simp⟩, m', (h.same k06).trans hTs⟩⟩
  · have hb : ¬ x.k % 8 = 0 := by simpa using hb
    have hb1 : ¬ x.k % 8 = 1 := by simpa using hb1
    have hb6 : ¬ x.k % 8 = 6 := by simpa using hb6
    have hb7 : ¬ x.k % 8 = 7 := by simpa using hb7
    have e1 : opX A2 x.k G x.a = (asR A2 G).1 := by unfold opX; rw [if_neg hb, if_neg hb1, if_neg (by omega)]
    have e2 : opX A x.k G x.a = (asR A G).1 := by unfold opX; rw [if_neg hb, if_neg hb1, if_neg (by omega)]
    rw [e1, e2]
    refine ⟨(acxassign_any (hT.k0 k01) hwf hn hsm c hc G pg cg hS (by omega)).mono fun e w3 ⟨⟨p3, c3, q3, d3, he, hU, hNr⟩, k3⟩ => ⟨_, _, _, _, _, _, _, he, .of_k0 k3, ?_⟩⟩
    have k03 := k01.trans k3
    have h3 := h.k0 k03
    refine ⟨(acassign_any h3 G pg cg (hS.k0 k3) (hTy.k0 k3) (by omega) hle hgz).mono fun e w4 ⟨⟨p4, c4, he, hr4, ht4⟩, m', hTs⟩ => ⟨_, _, _, _, he, hN hTs.k, ?_⟩⟩
    have hU4 := hU.tb h3.z hTs.k
    have hN4 := hNr.tb h3.z hTs.k
    have hS4 : StrP w4 pg G := (hS.k0 k3).kp hTs.k (fun b o e => by
      obtain ⟨cc, ff, hcc⟩ := (hTy.k0 k3) b o e
      exact h3.z.not_ty hcc (by decide))
    have hT4 := (h.same k03).trans hTs
    have hzp := asR_zip A G
    refine bsp_intro (fun hg => ⟨⟨p3, c3, _, rfl, hU4, fun e => ?_⟩, m', hT4⟩) (fun hg => ?_)
    · subst e
      exfalso
      revert hg
      simp [hzp]
    have hg : (asR A G).2.2 = (asR A2 G).2.2 ∧ (G.zip (asR A G).2.1).length = (asR A2 G).2.1.length := by
      simp only [Bool.or_eq_false_iff, bne_eq_false_iff_eq] at hg
      exact ⟨hg.1, by have := hg.2; omega⟩
    have hzl : (G.zip (asR A G).2.1).length ≤ G.length := by rw [List.length_zip]; omega
    refine ⟨fun vs w' => ∃ i : Nat, vs = [.int .i64 (i : Int)] ∧ i ≤ (G.zip (asR A G).2.1).length ∧ K0 w4 w', fun vs _ => (match vs with | .int _ a :: _ => (G.zip (asR A G).2.1).length - a.toNat | _ => 0), ⟨0, rfl, by omega, .refl _ _⟩, ?_⟩
    rintro xi w5 ⟨i, hv, hi, k5⟩ hL5
    simp only [List.cons.injEq, Value.int.injEq, true_and, and_true] at hv
    subst hv
    refine bsp_intro (fun hlt => ?_) (fun hge => ⟨⟨p3, c3, _, rfl, hU4.k0 k5, fun _ => rfl⟩, m', hT4.k0 k5⟩)
    have hlt : i < (G.zip (asR A G).2.1).length := by simp only [decide_eq_true_eq] at hlt; omega
    obtain ⟨y, yb, yo, hy, hpy, haty⟩ := (hr4.k0 k5).get hlt
    obtain ⟨s, sb, so, hs, hps, hcs⟩ := (hS4.k0 k5).get (k := i) (by omega)
    obtain ⟨v, vb, vo, hv, hpv, hatv⟩ := (hN4.k0 k5).row.get (k := i) (by omega)
    rw [Nat.mul_one] at hatv
    have hcv := hatv.cell (j := 0) rfl
    rw [Nat.add_zero] at hcv
    rw [Int.toNat_natCast]
    refine nn_is hpy ⟨⟨by omega, by omega⟩, y.1, y.2, fun W6 hW6 => haty.k0 (hW6.kk rfl), nn_is hps ⟨⟨by omega, by omega⟩, s, fun W6 hW6 => (hW6.kk rfl : K0 w5 W6).cell' hcs (fun h => h), nn_is hpv ⟨⟨by omega, by omega⟩, v, fun W6 hW6 => (hW6.kk rfl : K0 w5 W6).cell' hcv (fun h => h), _, plEq27 y.1 s y.2 v, bsp_intro (fun hr W6 hW6 => ?_) (fun hr W6 hW6 => ?_)⟩⟩⟩
    · refine ⟨⟨p3, c3, _, rfl, hU4.k0 (k5.trans (hW6.kk rfl)), fun e => ?_⟩, m', hT4.k0 (k5.trans (hW6.kk rfl))⟩
      subst e
      exfalso
      rw [List.getElem?_zip_eq_some, hs, hv] at hy
      obtain ⟨e1, e2⟩ := hy
      cases e1
      cases e2
      simp at hr
    · rw [inc64 (by omega)]
      exact ⟨⟨i + 1, rfl, hlt, k5.trans (hW6.kk rfl)⟩, by simp only [Int.toNat_natCast]; omega⟩
end

end Go.Proofs.YtgmmoghagpmpfaaGreatDoor

/- Chapter 27: the law's state and play. The library's variable MaxLen holds a number. -/
namespace Go.Proofs.YtgmmoghagpmpfaaGreatDoor
open Go.RowKit Go.Sort Go.Maps

/-- The table behind operations. -/
def plyT (l : List OpY) : TA := l.foldl (fun A x => opX A x.k (nmL x.gs) x.a) []
theorem plyT_snoc (l : List OpY) (x : OpY) : plyT (l ++ [x]) = opX (plyT l) x.k (nmL x.gs) x.a := by unfold plyT; rw [List.foldl_append]; rfl
theorem hi_opX {A : TA} (h : WF A) (k : Int) (l : List ByteArray) (n : Int) {s : ByteArray} {u : Gv} (hg : aget (opX A k l n) s = some u) : (∃ v, aget A s = some v ∧ u.h ≤ v.h + 1) ∨ u.h = 0 := by
  unfold opX at hg
  split at hg
  · rw [opA_get h] at hg
    split at hg
    · rename_i e
      subst e
      cases hA : aget A (fstL l) with
      | none =>
        rw [hA] at hg
        unfold opG at hg
        simp only at hg
        split at hg
        · cases hg
        split at hg
        · cases hg
        · cases hg; exact .inr rfl
      | some v =>
        rw [hA] at hg
        unfold opG at hg
        simp only at hg
        refine .inl ⟨v, rfl, ?_⟩
        split at hg
        · cases hg; omega
        split at hg
        · cases hg; omega
        · cases hg; show v.h ≤ v.h + 1; omega
    · exact .inl ⟨u, hg, by omega⟩
  split at hg
  · rw [clA_get] at hg
    split at hg
    · rename_i e
      subst e
      cases hA : aget A (fstL l) with
      | none => rw [hA] at hg; cases hg
      | some v => rw [hA] at hg; cases hg; exact .inl ⟨v, rfl, by show v.h ≤ v.h + 1; omega⟩
    · exact .inl ⟨u, hg, by omega⟩
  split at hg
  · rw [rmA_get] at hg
    split at hg
    · rename_i e
      subst e
      cases hA : aget A (fstL l) with
      | none => rw [hA] at hg; cases hg
      | some v =>
        rw [hA] at hg
        unfold rmG at hg
        simp only at hg
        refine .inl ⟨v, rfl, ?_⟩
        split at hg
        · cases hg; show v.h ≤ v.h + 1; omega
        · cases hg; omega
    · exact .inl ⟨u, hg, by omega⟩
  · rcases asR_get (A := A) l s with e | ⟨v, g1, _, _, _, _, g3⟩
    · exact .inl ⟨u, by rw [← e]; exact hg, by omega⟩
    · rw [hg] at g3
      cases g3
      exact .inl ⟨v, g1, Int.le_refl _⟩
theorem Sm.opX {A : TA} {j : Nat} (h : WF A) (hs : Sm j A) (k : Int) (l : List ByteArray) (n : Int) : Sm (j + 1) (opX A k l n) := fun p hp => by
  rcases hi_opX h k l n (aget_at (wf_opX h k l n).dis hp) with ⟨v, h1, h2⟩ | h1
  · have : v.h ≤ (j : Int) := hs _ (aget_mem h1)
    omega
  · rw [h1]; omega
theorem Sm.mono {A : TA} {j k : Nat} (hs : Sm j A) (h : j ≤ k) : Sm k A := fun p hp => by have := hs p hp; omega
/-- What operations keep. -/
structure Pl27 (A : TA) (n : Nat) : Prop where
  wf : WF A
  len : A.length ≤ n
  sm : Sm n A
theorem Pl27.op {A : TA} {n : Nat} (h : Pl27 A n) (k : Int) (l : List ByteArray) (a : Int) : Pl27 (opX A k l a) (n + 1) := ⟨wf_opX h.wf _ _ _, by have := opX_len A k l a; have := h.len; omega, Sm.opX h.wf h.sm _ _ _⟩
theorem Pl27.nil : Pl27 [] 0 := ⟨WF.nil, Nat.le_refl _, fun p hp => by cases hp⟩
theorem Pl27.fold : ∀ (l : List OpY) {A : TA} {n : Nat}, Pl27 A n → Pl27 (l.foldl (fun A x => opX A x.k (nmL x.gs) x.a) A) (n + l.length)
  | [], _, _, h => h
  | x :: l, A, n, h => by
    have := Pl27.fold l (h.op x.k (nmL x.gs) x.a)
    rw [List.foldl_cons, List.length_cons, show n + (l.length + 1) = n + 1 + l.length by omega]
    exact this
theorem plyT_ok (l : List OpY) : Pl27 (plyT l) l.length := by
  have := Pl27.fold l .nil
  rwa [Nat.zero_add] at this
theorem Pl27.ivl {A : TA} {n : Nat} (h : Pl27 A n) {p : ByteArray × Gv} (hp : p ∈ A) : p.2.l.length ≤ n := Nat.le_trans (ivs_len (h.wf.iv p hp)) (h.sm.len h.wf hp)
section
variable {w : World} {B b mb : Nat} {m : TM} {A : TA}
set_option maxHeartbeats 2000000 in
theorem aclstate_any {p : Option Addr} (h : Tq w B b mb m A) (hU : ∃ R, RowT w p R A) (hsm : Sm 1000000 A) (c : Nat) (hG : GW w) :
    Calls Tryz.prog 21 #[.pointer (some ⟨b, 0, none⟩), .slice p A.length c] w fun e w' => e = .returned (.bool true) ∧ K0 w w' := by
  obtain ⟨R, hT⟩ := hU
  have hlen := h.len
  refine vc_aclstate b p A.length c w _ ⟨(acgroups_any h hG).mono fun e w1 ⟨⟨p1, c1, he, ho⟩, k1⟩ => ⟨_, _, _, he, .of_k0 k1, bsp_intro (fun hb => ?_) (fun _ => ?_)⟩⟩
  · simp at hb
  have hS : StrP w1 p1 (A.map (·.1)) := strP_own ho (Nat.le_refl _)
  refine ⟨fun vs w' => ∃ i : Nat, vs = [.int .i64 (i : Int)] ∧ i ≤ A.length ∧ K0 w1 w', fun vs _ => (match vs with | .int _ a :: _ => A.length - a.toNat | _ => 0), ⟨0, rfl, by omega, .refl _ _⟩, ?_⟩
  rintro xi w2 ⟨i, hv, hi, k2⟩
  simp only [List.cons.injEq, Value.int.injEq, true_and, and_true] at hv
  subst hv
  have k02 := k1.trans k2
  refine bsp_intro (fun hlt => ?_) (fun hge => ⟨rfl, k02⟩)
  have hlt : i < A.length := by simp at hlt; omega
  obtain ⟨x, b1, o, hx, hp, hat⟩ := (hT.row.k0 k02).get (k := i) (by rw [hT.len]; exact hlt)
  have hxA := hT.at hx
  have hg := hT.found h.wf.dis hx
  have hmx := List.mem_of_getElem? hx
  obtain ⟨hnm, hh0, hh1, hiv⟩ := h.wf.get hg
  have hzs := name_size hnm
  have hle : (exI x.v.l).length ≤ 1000000 := hsm.len h.wf (aget_mem hg)
  rw [Int.toNat_natCast]
  refine nn_is hp ⟨⟨by omega, by omega⟩, x.s, hat.cell (j := 0) rfl, ⟨(acget_any (h.k0 k02) x.s (by omega)).mono fun e w3 ⟨he, k3⟩ => ?_⟩⟩
  rw [hg] at he
  refine ⟨_, _, _, _, _, _, he, .of_k0 k3, fun n2 W hW => ?_⟩
  have kW : K0 w3 W := hW.kk rfl
  have k2W := k3.trans kW
  have hcn : W.heap[n2]? = some (.cells #[.string x.s, .int .i64 (lowI x.v), .int .i64 x.v.h, .int .i64 ((exI x.v.l).length : Nat), .bool x.v.c] 31 (0, 0)) := hW.cells 0 rfl
  obtain ⟨s, sb, so, hs, hps, hcs⟩ := ((hS.k0 k2).k0 k2W).get (k := i) (by simpa using hlt)
  have hss : s = x.s := by
    rw [List.getElem?_map, hxA] at hs
    cases hs; rfl
  subst hss
  have hatW := hat.k0 k2W
  refine ⟨fun w' => K0 W w', .refl _ _, nn_is hps ⟨⟨by omega, by simp; omega⟩, x.s, fun w' k => k.cell' hcs (fun h => h), nn_is hp ⟨⟨by omega, by omega⟩, x.s, fun w' k => (hatW.k0 k).cell (j := 0) rfl, x.s, lowI x.v, x.v.h, ((exI x.v.l).length : Nat), x.v.c, gimp_intro fun _ w' k => AtL_block (k.blk hcn (fun h => h)) rfl,
    nn_is hp ⟨gimp_intro fun _ => ⟨by omega, by omega⟩, x.s, gimp_intro fun _ w' k => (hatW.k0 k).cell (j := 0) rfl, nn_is hp ⟨gimp_intro fun _ => ⟨by omega, by omega⟩, _, _, _, _, _, _, gimp_intro fun _ w' k => hatW.k0 k, nn_is hp ⟨gimp_intro fun _ => ⟨by omega, by omega⟩, x.v.h, gimp_intro fun _ w' k => (hatW.k0 k).cell (j := 1) rfl, nn_is hp ⟨gimp_intro fun _ => ⟨by omega, by omega⟩, x.q, (exI x.v.l).length, x.d, gimp_intro fun _ w' k => (hatW.k0 k).cell (j := 2) rfl, nn_is hp ⟨gimp_intro fun _ => ⟨by omega, by omega⟩, x.v.c, gimp_intro fun _ w' k => (hatW.k0 k).cell (j := 3) rfl, bsp_intro (fun _ => ?_) (fun hb => ?_)⟩⟩⟩⟩⟩⟩⟩⟩
  · refine ⟨(acxlow_any x ((hT.sub x hmx).k0 (k02.trans k2W)) hiv ⟨hh0, hh1⟩).mono fun e w4 ⟨he, k4⟩ => ⟨_, he, k4, _, grEq27 x.s x.s _ _ _ _ _ _ _ _, .of_k0 k4, bsp_intro (fun hb => ?_) (fun _ => ?_)⟩⟩
    · simp at hb
    · rw [inc64 (by omega)]
      exact ⟨⟨i + 1, rfl, hlt, (k2.trans k2W).trans k4⟩, by simp only [Int.toNat_natCast]; omega⟩
  · simp at hb
set_option maxHeartbeats 2000000 in
theorem aclplay_any (ops : List OpY) (q : Option Addr) (d : Nat) (w : World) (hR : RowA opC27 3 w q ops) (hO : ∀ x ∈ ops, OpR27 w x) (hl : ops.length ≤ 4611686018427387904) (hG : GW w) :
    Calls Tryz.prog 22 #[.slice q ops.length d] w fun e w' => (∃ b mb m p c, e = .returned (.tuple #[.pointer (some ⟨b, 0, none⟩), .slice p (plyT (ops.take 40)).length c, .bool true]) ∧ Tq w' w.heap.size b mb m (plyT (ops.take 40)) ∧ RowU w' p c (plyT (ops.take 40))) ∧ K0 w w' := by
  refine vc_aclplay q ops.length d w _ ⟨(acnew_any w (gw_lt hG)).mono fun e w1 ⟨⟨b, mb, he, hT1⟩, k1⟩ => ⟨_, he, .of_k0 k1, ?_⟩⟩
  refine ⟨fun vs w' => ∃ (i : Nat) (m : TM) (p : Option Addr) (c : Nat), vs = [.int .i64 (i : Int), .slice p (plyT (ops.take i)).length c] ∧ i ≤ ops.length ∧ i ≤ 40 ∧ Tq w' w.heap.size b mb m (plyT (ops.take i)) ∧ RowU w' p c (plyT (ops.take i)) ∧ K0 w w',
    fun vs _ => (match vs with | .int _ a :: _ => ops.length - a.toNat | _ => 0), ⟨0, [], none, 0, rfl, by omega, by omega, hT1, ⟨[], .nil, Nat.le_refl _⟩, k1⟩, ?_⟩
  rintro xi p1 n1 c1 w2 ⟨i, m, p, c, hv, hi, hi4, hq, ⟨R, hT, hc⟩, k2⟩
  simp only [List.cons.injEq, Value.int.injEq, Value.slice.injEq, true_and, and_true] at hv
  obtain ⟨rfl, rfl, rfl, rfl⟩ := hv
  refine bsp_intro (fun hlt => ?_) (fun hge => ?_)
  · have hlt : i < ops.length ∧ i < 40 := by simp at hlt; omega
    obtain ⟨x, xb, xo, hx, hp, hat⟩ := (hR.k0 k2).get hlt.1
    rw [Int.toNat_natCast]
    have hok := plyT_ok (ops.take i)
    have hil : (ops.take i).length ≤ 40 := by rw [List.length_take]; omega
    have hlA := hok.len
    refine nn_is hp ⟨⟨by omega, by omega⟩, _, _, _, _, _, hat, ⟨(acldo_any hq hT hok.wf (by omega) (hok.sm.mono (by omega)) c1 hc x ((hO x (List.mem_of_getElem? hx)).k0 k2) (gk0 hG k2)).mono fun e w3 ⟨⟨p', c', ok, he, hU, hok'⟩, m', hTs⟩ => ⟨_, _, _, _, he, ⟨hTs.k.size, fun _ hm => by cases hm⟩, bsp_intro (fun hb => ?_) (fun _ => ?_)⟩⟩⟩
    · rw [hok' rfl] at hb; cases hb
    · rw [inc64 (by omega)]
      rw [← plyT_snoc, ← take_snoc hx] at hU hTs ⊢
      exact ⟨⟨i + 1, m', p', c', rfl, by omega, by omega, hTs.t, hU, hTs.base hq.z k2 (Nat.le_refl _)⟩, by simp only [Int.toNat_natCast]; omega⟩
  · have hge : ops.length ≤ i ∨ 40 ≤ i := by simp at hge; omega
    have e : ops.take i = ops.take 40 := by
      rcases hge with h | h
      · rw [List.take_of_length_le h, List.take_of_length_le (by omega)]
      · rw [show i = 40 by omega]
    rw [e] at hq hT hc ⊢
    exact ⟨⟨b, mb, m, p1, c1, rfl, hq, R, hT, hc⟩, k2⟩
end

end Go.Proofs.YtgmmoghagpmpfaaGreatDoor

/- The formulas of functions by the symbolic evaluator, and that each gives the call's contract. Written by a program (gen.py). No condition. -/
namespace Go.Proofs.YtgmmoghagpmpfaaGreatDoor
set_option maxRecDepth 100000
set_option linter.unusedVariables false

def VC_aclclones (p : Option Addr) (n : Nat) (c : Nat) (q : Option Addr) (k : Nat) (d : Nat) (w : World) (R : Ending → World → Prop) : Prop :=
 CallsS Tryz.prog 15 #[] w fun (e : Ending) (w' : World) =>
 ∃ (x : Bool),
 e = Ending.returned (Value.bool x) ∧
 KeptL [] w w' ∧
 bsp (!x) (R (Ending.returned (Value.bool false)) w')
 (((0 ≤ if 30 < (↑n : Int) then 30 else (↑n : Int)) ∧ (if 30 < (↑n : Int) then 30 else (↑n : Int)) ≤ (↑c : Int)) ∧
 CallsS Tryz.prog 22 #[Value.slice p (if 30 < (↑n : Int) then 30 else (↑n : Int)).toNat c] w'
 fun (e : Ending) (w'_1 : World) =>
 ∃ (x : Option Addr),
 ∃ (p : Option Addr),
 ∃ (n : Nat),
 ∃ (c : Nat),
 ∃ (x_1 : Bool),
 e = Ending.returned (Value.tuple #[Value.pointer x, Value.slice p n c, Value.bool x_1]) ∧
 KeptL [] w' w'_1 ∧
 CallsS Tryz.prog 35 #[Value.pointer x] w'_1 fun (e : Ending) (w' : World) =>
 ∃ (x_2 : Option Addr),
 e = Ending.returned (Value.pointer x_2) ∧
 KeptL [] w'_1 w' ∧
 bsp (!(!x_1 || x_2.isNone))
 (CallsS Tryz.prog 24 #[Value.pointer x_2, Value.pointer x] w' fun (e : Ending) (w'_2 : World) =>
 ∃ (x_3 : Bool),
 e = Ending.returned (Value.bool x_3) ∧
 KeptL [] w' w'_2 ∧
 bsp (false || !x_3) (R (Ending.returned (Value.bool false)) w'_2)
 (CallsS Tryz.prog 17 #[Value.pointer x] w'_2 fun (e : Ending) (w' : World) =>
 ∃ (x_4 : ByteArray),
 e = Ending.returned (Value.string x_4) ∧
 KeptL [] w'_2 w' ∧
 ∃ (I : List Value → World → Prop),
 ∃ (m : List Value → World → Nat),
 I [Value.int IntKind.i64 0] w' ∧
 ∀ (x_5 : Int) (w' : World),
 I [Value.int IntKind.i64 x_5] w' →
 bsp (decide (x_5 < (↑k : Int)) && decide (x_5 < 5))
 (nn true q fun (b o : Nat) =>
 (0 ≤ x_5 ∧ x_5 < (↑k : Int)) ∧
 ∃ (x : Int),
 ∃ (p : Option Addr),
 ∃ (n : Nat),
 ∃ (c : Nat),
 ∃ (x_6 : Int),
 AtL w' b (o + x_5.toNat * 3)
 [Value.int IntKind.u8 x, Value.slice p n c, Value.int IntKind.i64 x_6] ∧
 CallsS Tryz.prog 20
 #[Value.pointer x_2, Value.slice none 0 0,
 Value.agg
 #[Value.int IntKind.u8 x, Value.slice p n c, Value.int IntKind.i64 x_6]]
 w' fun (e : Ending) (w'_3 : World) =>
 ∃ (p : Option Addr),
 ∃ (n : Nat),
 ∃ (c : Nat),
 ∃ (x : Bool),
 e = Ending.returned (Value.tuple #[Value.slice p n c, Value.bool x]) ∧
 KeptL [] w' w'_3 ∧
 I [Value.int IntKind.i64 (IntKind.i64.wrap (x_5 + 1))] w'_3 ∧
 m [Value.int IntKind.i64 (IntKind.i64.wrap (x_5 + 1))] w'_3 <
 m [Value.int IntKind.i64 x_5] w')
 (CallsS Tryz.prog 17 #[Value.pointer x] w' fun (e : Ending) (w'_3 : World) =>
 ∃ (x_6 : ByteArray),
 e = Ending.returned (Value.string x_6) ∧
 KeptL [] w' w'_3 ∧
 bsp (x_6.toList == x_4.toList)
 (CallsS Tryz.prog 24 #[Value.pointer x_2, Value.pointer x] w'_3
 fun (e : Ending) (w' : World) =>
 ∃ (x_7 : Bool),
 e = Ending.returned (Value.bool x_7) ∧
 KeptL [] w'_3 w' ∧
 CallsS Tryz.prog 17 #[Value.pointer x_2] w'
 fun (e : Ending) (w'_4 : World) =>
 ∃ (x_8 : ByteArray),
 e = Ending.returned (Value.string x_8) ∧
 KeptL [] w' w'_4 ∧
 bsp (true && x_7 == (x_8.toList == x_4.toList))
 (CallsS Tryz.prog 24 #[Value.pointer x, Value.pointer x_2] w'_4
 fun (e : Ending) (w' : World) =>
 ∃ (x_9 : Bool),
 e = Ending.returned (Value.bool x_9) ∧
 KeptL [] w'_4 w' ∧
 CallsS Tryz.prog 24 #[Value.pointer x_2, Value.pointer x] w'
 fun (e : Ending) (w'_5 : World) =>
 ∃ (x : Bool),
 e = Ending.returned (Value.bool x) ∧
 KeptL [] w' w'_5 ∧
 R (Ending.returned (Value.bool (true && x_9 == x))) w'_5)
 (KeptL [] w'_4 w'_4 ∧
 KeptL [] w'_4 w'_4 ∧ R (Ending.returned (Value.bool false)) w'_4))
 (KeptL [] w'_3 w'_3 ∧
 KeptL [] w'_3 w'_3 ∧
 KeptL [] w'_3 w'_3 ∧
 KeptL [] w'_3 w'_3 ∧ R (Ending.returned (Value.bool false)) w'_3))))
 (KeptL [] w' w' ∧ R (Ending.returned (Value.bool false)) w'))
theorem vc_aclclones (p : Option Addr) (n : Nat) (c : Nat) (q : Option Addr) (k : Nat) (d : Nat) (w : World) (R : Ending → World → Prop) (h : VC_aclclones p n c q k d w R) : Calls Tryz.prog 10 ([Value.slice
    p n c,
  Value.slice q k d] : List Value).toArray w R := by
  have e : execR2 { P := Tryz.prog, loops := [(10, [(11, Ck.int IntKind.i64)])], pur := pur1, tails := [], joins := [], boxes := [] } Tryz.f10.results.toList R (Tryz.f10.body.getD .skip) (initF [Value.slice
    p n c,
  Value.slice q k
    d] (Tryz.f10.ntmps - ([Value.slice p n c,
  Value.slice q k d] : List Value).length)) w = VC_aclclones p n c q k d w R := by kernel_rfl
  have hb : Tryz.f10.body = some (Tryz.f10.body.getD .skip) := by kernel_rfl
  exact calls_of_exec2' (P := Tryz.prog) (fn := Tryz.f10) (c := Tryz.f10.body.getD .skip) (args := [Value.slice p n c,
  Value.slice q k d]) (w := w) (R := R) pur1_ok Tryz.func10 hb e h

end Go.Proofs.YtgmmoghagpmpfaaGreatDoor

/- Chapter 27: ActiveClones on worlds. The library's variable MaxLen holds a number, its table of powers of ten reads as laid. -/
namespace Go.Proofs.YtgmmoghagpmpfaaGreatDoor
open Go.RowKit Go.Sort Go.Maps

theorem RowA.take27 {α : Type} {f : α → List Value} {L : Nat} {w : World} {p : Option Addr} {l : List α} (h : RowA f L w p l) (n : Nat) : RowA f L w p (l.take n) := fun k y hy => h k y (by
  rw [List.getElem?_take] at hy
  split at hy
  · exact hy
  · cases hy)
theorem min30 (n : Nat) : (if (30 : Int) < (n : Int) then (30 : Int) else (n : Int)).toNat = min 30 n := by split <;> omega
theorem take30 {α : Type} (l : List α) : (l.take 30).take 40 = l.take 30 := by rw [List.take_take]; rfl
/-- Operations on a table. -/
def plyF (A : TA) (l : List OpY) : TA := l.foldl (fun A x => opX A x.k (nmL x.gs) x.a) A
theorem plyF_snoc (A : TA) (l : List OpY) (x : OpY) : plyF A (l ++ [x]) = opX (plyF A l) x.k (nmL x.gs) x.a := by unfold plyF; rw [List.foldl_append]; rfl
theorem plyF_ok {A : TA} {n : Nat} (h : Pl27 A n) (l : List OpY) : Pl27 (plyF A l) (n + l.length) := Pl27.fold l h
set_option maxHeartbeats 2000000 in
theorem lacclones_any (p0 : Option Addr) (c0 : Nat) (L0 : List OpY) (p1 : Option Addr) (c1 : Nat) (L1 : List OpY) (w : World) (hR0 : RowA opC27 3 w p0 L0) (hL0 : ∀ x ∈ L0, OpR27 w x) (hn0 : L0.length ≤ 4611686018427387904) (hc0 : L0.length ≤ c0) (hR1 : RowA opC27 3 w p1 L1) (hL1 : ∀ x ∈ L1, OpR27 w x) (hn1 : L1.length ≤ 4611686018427387904) (hG : GW w) (hGT : GT w) :
    Calls Tryz.prog 10 #[.slice p0 L0.length c0, .slice p1 L1.length c1] w fun e w' => e = .returned (.bool true) ∧ K0 w w' := by
  refine vc_aclclones p0 L0.length c0 p1 L1.length c1 w _ ⟨(acknown_any w hG hGT).mono fun e w1 ⟨he, k1⟩ => ⟨_, he, .of_k0 k1, bsp_intro (fun h => by cases h) (fun _ => ⟨⟨by split <;> omega, by split <;> omega⟩, ?_⟩)⟩⟩
  rw [min30, show min 30 L0.length = (L0.take 30).length by rw [List.length_take]]
  have hp := aclplay_any (L0.take 30) p0 c0 w1 ((hR0.k0 k1).take27 30) (fun x hx => (hL0 x (List.mem_of_mem_take hx)).k0 k1) (by rw [List.length_take]; omega) (gk0 hG k1)
  rw [take30] at hp
  refine ⟨hp.mono fun e w2 ⟨⟨b, mb, m, p, c, he, hq, hU⟩, k2⟩ => ⟨_, _, _, _, _, he, .of_k0 k2, ?_⟩⟩
  have hok := plyT_ok (L0.take 30)
  have hl30 : (L0.take 30).length ≤ 30 := by rw [List.length_take]; omega
  generalize plyT (L0.take 30) = A at *
  generalize (L0.take 30).length = N at *
  have k02 := k1.trans k2
  have hG2 := gk0 hG k02
  refine ⟨(acclone_any hq (gw_lt hG2)).mono fun e w3 ⟨⟨d, md, mD, he, hC⟩, k3⟩ => ⟨_, he, .of_k0 k3, bsp_intro (fun _ => ?_) (fun h => by cases h)⟩⟩
  have k03 := k02.trans k3
  have hbl : b < w2.heap.size := block_lt hq.z.st
  have htl : ∀ k, Tb mb m k → k < w2.heap.size := fun k hk => (hq.z.tb hk).2.1
  have hq3 := hq.k0 k3
  refine ⟨(acequal_any hC hq3).mono fun e w4 ⟨⟨r, he, hr⟩, k4⟩ => ⟨_, he, .of_k0 k4, bsp_intro (fun h => by rw [hr.2 rfl] at h; cases h) (fun _ => ?_)⟩⟩
  have k04 := k03.trans k4
  refine ⟨(acprint_any (hq3.k0 k4) (gk0 hG k04) (hGT.k0 k04) (fun x hx => by have := hok.ivl hx; omega)).mono fun e w5 ⟨he, k5⟩ => ⟨_, he, .of_k0 k5, ?_⟩⟩
  have k05 := k04.trans k5
  refine ⟨fun vs w' => ∃ (i : Nat) (mD : TM), vs = [.int .i64 (i : Int)] ∧ i ≤ L1.length ∧ i ≤ 5 ∧ Tq w' w2.heap.size d md mD (plyF A (L1.take i)) ∧ Tq w' w1.heap.size b mb m A ∧ K0 w w',
    fun vs _ => (match vs with | .int _ a :: _ => L1.length - a.toNat | _ => 0), ⟨0, mD, rfl, by omega, by omega, hC.k0 (k4.trans k5), hq3.k0 (k4.trans k5), k05⟩, ?_⟩
  rintro xi w6 ⟨i, mD, hv, hi, hi5, hC6, hq6, k6⟩
  simp only [List.cons.injEq, Value.int.injEq, true_and, and_true] at hv
  subst hv
  have hok6 := plyF_ok hok (L1.take i)
  have hil : (L1.take i).length ≤ 5 := by rw [List.length_take]; omega
  have hlen := hok.len
  have hlen6 := hok6.len
  refine bsp_intro (fun hlt => ?_) (fun hge => ?_)
  · have hlt : i < L1.length ∧ i < 5 := by simp at hlt; omega
    obtain ⟨x, xb, xo, hx, hpx, hat⟩ := (hR1.k0 k6).get hlt.1
    rw [Int.toNat_natCast]
    have hdo := acldo_any (A2 := []) hC6 (RowT.nil (w := w6)) WF.nil (by decide) (fun p hp => by cases hp) 0 (Nat.le_refl _) x ((hL1 x (List.mem_of_getElem? hx)).k0 k6) (gk0 hG k6)
    refine nn_is hpx ⟨⟨by omega, by omega⟩, _, _, _, _, _, hat, ⟨hdo.mono fun e w7 ⟨⟨p', c', ok, he, _, _⟩, m', hTs⟩ => ⟨_, _, _, _, he, ⟨hTs.k.size, fun _ hm => by cases hm⟩, ?_⟩⟩⟩
    rw [inc64 (by omega)]
    rw [← plyF_snoc, ← take_snoc hx] at hTs
    exact ⟨⟨i + 1, m', rfl, by omega, by omega, hTs.t, hq6.kp hTs.k (fun e => by have := (hC6.z.tb e).1; omega) (fun k hk e => by have := htl k hk; have := (hC6.z.tb e).1; omega), hTs.base hC6.z k6 k02.size⟩, by simp only [Int.toNat_natCast]; omega⟩
  generalize plyF A (L1.take i) = C at *
  refine ⟨(acprint_any hq6 (gk0 hG k6) (hGT.k0 k6) (fun x hx => by have := hok.ivl hx; omega)).mono fun e w7 ⟨he, k7⟩ => ⟨_, he, .of_k0 k7, bsp_intro (fun _ => ?_) (fun h => by rw [str_beq] at h; simp at h)⟩⟩
  refine ⟨(acequal_any (hC6.k0 k7) (hq6.k0 k7)).mono fun e w8 ⟨⟨r, he, hr⟩, k8⟩ => ⟨_, he, .of_k0 k8, ?_⟩⟩
  have k08 := (k6.trans k7).trans k8
  refine ⟨(acprint_any ((hC6.k0 k7).k0 k8) (gk0 hG k08) (hGT.k0 k08) (fun x hx => by have := hok6.ivl hx; omega)).mono fun e w9 ⟨he, k9⟩ => ⟨_, he, .of_k0 k9, ?_⟩⟩
  have e1 : ((prT C).toList == (prT A).toList) = r := by
    rw [str_beq, Bool.eq_iff_iff, hr, decide_eq_true_eq]
    exact ⟨fun h => prT_inj hok6.wf hok.wf (by omega) (by omega) h, fun h => by rw [h]⟩
  rw [e1]
  refine bsp_intro (fun _ => ?_) (fun h => by simp at h)
  have kk := (k7.trans k8).trans k9
  refine ⟨(acequal_any (hq6.k0 kk) (hC6.k0 kk)).mono fun e w10 ⟨⟨r1, he, hr1⟩, k10⟩ => ⟨_, he, .of_k0 k10, ?_⟩⟩
  refine ⟨(acequal_any ((hC6.k0 kk).k0 k10) ((hq6.k0 kk).k0 k10)).mono fun e w11 ⟨⟨r2, he, hr2⟩, k11⟩ => ⟨_, he, .of_k0 k11, ?_, (((k6.trans kk).trans k10).trans k11)⟩⟩
  have e2 : r1 = r2 := by
    rw [Bool.eq_iff_iff, hr1, hr2]
    exact ⟨fun h => h.symm, fun h => h.symm⟩
  rw [e2]
  simp

end Go.Proofs.YtgmmoghagpmpfaaGreatDoor
