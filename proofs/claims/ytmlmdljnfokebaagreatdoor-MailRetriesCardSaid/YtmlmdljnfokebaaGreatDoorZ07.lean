/- The contracts of (*strings.Builder).copyCheck, WriteString (written since it was made, never read) and String. Texts of at most 2^47 bytes. -/
import Derived.Test.YtmlmdljnfokebaaGreatDoorZ03
import Derived.Test.YtmlmdljnfokebaaGreatDoorZ06
import Derived.Shelf.Strings.BuilderX
import Derived.Lib.Builder
import Derived.Lib.AppendStr
import Derived.Lib.UnsafeStr
import Derived.WalkKit
import Derived.Laws.Externs
import Derived.Shelf.RegionOpenPlain
import Derived.Lib.OthersKept
import Derived.Lib.FrozenHead
import Derived.Test.YtmlmdljnfokebaaGreatDoorProg
import Derived.Test.YtmlmdljnfokebaaGreatDoorZ02
import Derived.Test.YtmlmdljnfokebaaGreatDoorZ05
import Derived.Test.YtmlmdljnfokebaaGreatDoorZ04
import Derived.KernelRfl
namespace Go.Proofs.YtmlmdljnfokebaaGreatDoor
open Go.RowKit

set_option maxHeartbeats 1000000 in
set_option maxRecDepth 100000 in
theorem bcheck_used (b : Nat) (w : World) (h0 : w.cell? ⟨b, 0, none⟩ = some (.pointer (some ⟨b, 0, none⟩))) :
    Calls Tryz.prog 124 #[.pointer (some ⟨b, 0, none⟩)] w fun e w' => e = .returned (.tuple #[]) ∧ w' = w := by
  have hX : (Tryz.prog.info? 140).map (·.size) = some 2 := by kernel_rfl
  obtain ⟨j, hj, _⟩ := Option.map_eq_some_iff.1 hX
  go_enter Tryz.func124, Tryz.ntmps124
  go_wp2
  rw [Lib.run_neq_ptr_same w _ Tryz.underlying137 hj]
  go_wp2
  go_end0
  exact ⟨rfl, rfl⟩
set_option maxHeartbeats 1000000 in
set_option maxRecDepth 100000 in
theorem bcheck_fresh (b : Nat) (w : World) (h0 : w.cell? ⟨b, 0, none⟩ = some (.pointer none)) (hsh : w.shape? b = some (140, 2)) (hfz : w.frozen? ⟨b, 0, none⟩ = false) :
    Calls Tryz.prog 124 #[.pointer (some ⟨b, 0, none⟩)] w fun e w' => e = .returned (.tuple #[]) ∧ w' = w.setCell ⟨b, 0, none⟩ (.pointer (some ⟨b, 0, none⟩)) := by
  have hX : (Tryz.prog.info? 140).map (·.size) = some 2 := by kernel_rfl
  have hY : liesAt Tryz.prog Tryz.prog.depth 140 (2 / Tryz.prog.cellsOf 140) 0 140 1 = true := by kernel_rfl
  obtain ⟨j, hj, hjs⟩ := Option.map_eq_some_iff.1 hX
  go_enter Tryz.func124, Tryz.ntmps124
  go_wp2
  rw [Lib.run_to_unsafe w ⟨b, 0, none⟩ Tryz.underlying137 Tryz.underlying185 hj (by rw [hjs]; decide) hsh (Nat.zero_lt_succ 1)]
  simp only [Result.andThen]
  rw [Oper.upon_value]
  go_wp2
  rw [run_callFunc_extern Tryz.func151 (by kernel_rfl) (by kernel_rfl) (by kernel_rfl) (e := Extern.AbiNoEscape.same) (by kernel_rfl)]
  rw [Lib.run_noEscape]
  simp only [Result.andThen]
  rw [Oper.upon_value]
  go_wp2
  rw [Lib.run_from_unsafe w ⟨b, 0, none⟩ Tryz.underlying185 Tryz.underlying137 hj hsh hY]
  simp only [Result.andThen]
  rw [Oper.upon_value]
  go_wp2
  go_end0
  exact ⟨rfl, rfl⟩
theorem bcheck_any (B b : Nat) (bs : List Value) (w : World) (h : Lib.IsBuilder 140 5 B b bs w) :
    Calls Tryz.prog 124 #[.pointer (some ⟨b, 0, none⟩)] w fun e w' => e = .returned (.tuple #[]) ∧ Lib.BuilderAt 140 5 B b (.pointer (some ⟨b, 0, none⟩)) bs w' ∧ Below B w w' ∧ Lib.OthersKept 5 (some b) w w' := by
  rcases h with h | h
  · refine (bcheck_fresh b w h.cell0 h.shape h.frozen0).mono ?_
    rintro e w' ⟨rfl, rfl⟩
    exact ⟨rfl, h.used _, (Below.refl B w).setCell (p := ⟨b, 0, none⟩) h.1 _, (Lib.OthersKept.refl _ _ w).setCell ⟨b, 0, none⟩ rfl _⟩
  · refine (bcheck_used b w h.cell0).mono ?_
    rintro e w' ⟨rfl, rfl⟩
    exact ⟨rfl, h, Below.refl B _, Lib.OthersKept.refl _ _ _⟩

set_option maxHeartbeats 1000000 in
set_option maxRecDepth 100000 in
theorem bwrite_any (B b : Nat) (bs : List Value) (s : ByteArray) (w : World) (h : Lib.IsBuilder 140 5 B b bs w) (hlen : bs.length + s.size ≤ 140737488355328) (hBw : B ≤ w.heap.size) :
    Calls Tryz.prog 82 #[.pointer (some ⟨b, 0, none⟩), .string s] w fun e w' => e = .returned (.tuple #[.int .i64 s.size, .nilIface]) ∧ Lib.BuilderAt 140 5 B b (.pointer (some ⟨b, 0, none⟩)) (bs ++ Lib.strCells s) w' ∧ Below B w w' ∧ Lib.OthersKept 5 (some b) w w' := by
  have hI : (Tryz.prog.info? 5).map (fun i => (i.zero, i.size, i.bytes)) = some (some (.int .u8 0), 1, 1) := by kernel_rfl
  obtain ⟨i0, hi, hz0, hz1, hz2⟩ := info_parts hI
  go_enter Tryz.func82, Tryz.ntmps82
  go_wp2_with (go_at_call 124; refine (bcheck_any B b bs _ h).mono ?_)
  rintro e w1 ⟨rfl, h1, hb1, hk1⟩
  obtain ⟨hB, v, hbk, hown, hne⟩ := h1
  have c0 : w1.cell? ⟨b, 0, none⟩ = some (.pointer (some ⟨b, 0, none⟩)) := by rw [Lib.cell_of_heap hbk]; rfl
  have c1 : w1.cell? ⟨b, 1, none⟩ = some v := by rw [Lib.cell_of_heap hbk]; rfl
  go_wp2_with (at_builtin; refine Lib.wpList_append_own_string _ rfl _ _ 138 9 rfl B 5 i0 Tryz.underlying138 Tryz.underlying9 hi hz0 hz1 hz2 _ _ _ rfl hown s rfl ?c3 ?c4 ?c5 ?_)
  case c3 => unfold maxLen; omega
  case c4 => omega
  case c5 => have := hb1.size; omega
  intro v' w2 hown' hgrow _
  have hlt : b < w1.heap.size := by
    rcases Nat.lt_or_ge b w1.heap.size with h' | h'
    · exact h'
    · simp [Array.getElem?_eq_none h'] at hbk
  have hb2 : w2.heap[b]? = some (.cells #[.pointer (some ⟨b, 0, none⟩), v] 140 (0, 0)) := by
    rw [hgrow.block b hlt (fun e => hne e.symm)]
    exact hbk
  have d0 : w2.cell? ⟨b, 0, none⟩ = some (.pointer (some ⟨b, 0, none⟩)) := by rw [Lib.cell_of_heap hb2]; rfl
  have d1 : w2.cell? ⟨b, 1, none⟩ = some v := by rw [Lib.cell_of_heap hb2]; rfl
  have f1 : w2.frozen? ⟨b, 1, none⟩ = false := Lib.frozen_of_heap hb2 1
  obtain ⟨ao, n', cap, rfl⟩ : ∃ ao n' cap, v' = .slice ao n' cap := by
    rcases hown'.2 with ⟨hv, _⟩ | ⟨g, cap, cur, hv, _⟩
    · exact ⟨_, _, _, hv⟩
    · exact ⟨_, _, _, hv⟩
  go_wp2
  go_ret2
  refine ⟨rfl, ?_, ?_, (hk1.grown hgrow (Lib.ownsRowF_kind (World.ownsRowF_of hown))).setCell ⟨b, 1, none⟩ rfl _⟩
  · exact Lib.BuilderAt.put (T := 140) (e := 5) hB hb2 (bs' := bs ++ Lib.strCells s) (by simpa [Lib.strCells_length] using hown') (by decide)
  · exact (hb1.grown hgrow (by have := hb1.size; omega) (fun k hk => (hown.lt k hk).1)).setCell (p := ⟨b, 1, none⟩) hB _

/-! ### In the words of this proof -/
/-- A builder that holds a text (from block b on nothing is older). -/
def Bld (b : Nat) (s : ByteArray) (w : World) : Prop := Lib.IsBuilder 140 5 b b (Lib.strCells s) w
theorem Bld.k0 {b : Nat} {s : ByteArray} {w w' : World} (h : Bld b s w) (hk : K0 w w') : Bld b s w' := by
  rcases h with ⟨h1, v, h2, h3, h4⟩ | ⟨h1, v, h2, h3, h4⟩
  · exact .inl ⟨h1, v, hk.blk h2 (fun h => h), owns_kp h3 hk (fun _ _ h => h), h4⟩
  · exact .inr ⟨h1, v, hk.blk h2 (fun h => h), owns_kp h3 hk (fun _ _ h => h), h4⟩
theorem Bld.lt {b : Nat} {s : ByteArray} {w : World} (h : Bld b s w) : b < w.heap.size := by
  rcases h with h | h <;> exact h.lt
theorem Bld.new {b : Nat} {w : World} (h : w.heap[b]? = some (.cells #[.pointer none, .slice none 0 0] 140 (0, 0))) : Bld b ⟨#[]⟩ w :=
  .inl ⟨Nat.le_refl _, .slice none 0 0, h, World.ownsRow_nil _ _ _ _, by simp [Value.ownBlock]⟩
theorem strCells_app (a b : ByteArray) : Lib.strCells (a ++ b) = Lib.strCells a ++ Lib.strCells b := by
  unfold Lib.strCells
  rw [ByteArray.toList_data_append, List.map_append]
theorem Bld.write {b : Nat} {t : ByteArray} {w : World} (h : Bld b t w) (s : ByteArray) (hl : t.size + s.size ≤ 140737488355328) :
    Calls Tryz.prog 82 #[.pointer (some ⟨b, 0, none⟩), .string s] w fun e w' => e = .returned (.tuple #[.int .i64 s.size, .nilIface]) ∧ Bld b (t ++ s) w' ∧ Kp (fun k => b ≤ k) w w' ∧
      ∀ k c ty f, w.heap[k]? = some (.cells c ty f) → k ≠ b → ty ≠ 5 → w'.heap[k]? = w.heap[k]? :=
  (bwrite_any b b _ s w h (by rw [Lib.strCells_length]; exact hl) (Nat.le_of_lt h.lt)).mono fun e w' ⟨he, h1, h2, h3⟩ => by
    rw [← strCells_app] at h1
    refine ⟨he, .inr h1, ⟨h2.os, h2.tape, h2.output, h2.size, fun k _ hb => h2.block k (by omega)⟩, fun k c ty f hk hb ht => ?_⟩
    rw [hk]
    exact h3 k _ hk (fun e => hb (Option.some.inj e)) (fun c' f' e => ht (by cases e; rfl))
theorem Bld.text {b : Nat} {s : ByteArray} {w : World} (h : Bld b s w) :
    Calls Tryz.prog 84 #[.pointer (some ⟨b, 0, none⟩)] w fun e w' => e = .returned (.string s) ∧ Kp (fun k => b ≤ k) w w' :=
  (Tryz.Builder_String_any b b s.data.toList w h (Nat.le_of_lt h.lt)).mono fun e w' ⟨he, h2⟩ => ⟨he, ⟨h2.os, h2.tape, h2.output, h2.size, fun k _ hb => h2.block k (by omega)⟩⟩
theorem Bld.textT {b : Nat} {s : ByteArray} {w : World} (h : Bld b s w) :
    Calls Tryz.prog 84 #[.pointer (some ⟨b, 0, none⟩)] w fun e w' => e = .returned (.string s) ∧ Kp (fun k => b ≤ k) w w' ∧ ∀ k c ty f, w.heap[k]? = some (.cells c ty f) → k ≠ b → ty ≠ 5 → w'.heap[k]? = w.heap[k]? := by
  have hF : Lib.IsBuilderF 140 5 b b (Lib.byteCells s.data.toList) w := by
    rcases h with ⟨h1, v, h2, h3, h4⟩ | ⟨h1, v, h2, h3, h4⟩
    · exact .inl ⟨h1, v, h2, World.ownsRowF_of h3, h4⟩
    · exact .inr ⟨h1, v, h2, World.ownsRowF_of h3, h4⟩
  refine (Tryz.Builder_String_any_k b b s.data.toList w hF (Nat.le_of_lt h.lt)).mono fun e w' ⟨he, _, h2, h3⟩ => ⟨he, ⟨h2.os, h2.tape, h2.output, h2.size, fun k _ hb => h2.block k (by omega)⟩, fun k c ty f hk hb ht => ?_⟩
  rw [hk]
  exact h3 k _ hk (fun e => hb (Option.some.inj e)) (fun c' f' e => ht (by cases e; rfl))

end Go.Proofs.YtmlmdljnfokebaaGreatDoor

/- The formulas of functions by the symbolic evaluator, and that each gives the call's contract. Written by a program (gen.py). No condition. -/
namespace Go.Proofs.YtmlmdljnfokebaaGreatDoor
set_option maxRecDepth 100000
set_option linter.unusedVariables false

def VC_crune (s : ByteArray) (x : Int) (w : World) (R : Ending → World → Prop) : Prop :=
 CallsS Tryz.prog 160 #[Value.string s, Value.int IntKind.i32 x] w fun (e : Ending) (w' : World) =>
 ∃ (x : Int),
 e = Ending.returned (Value.int IntKind.i64 x) ∧ KeptL [] w w' ∧ R (Ending.returned (Value.bool (decide (x ≥ 0)))) w'
theorem vc_crune (s : ByteArray) (x : Int) (w : World) (R : Ending → World → Prop) (h : VC_crune s x w R) : Calls Tryz.prog 147 ([Value.string
    s,
  Value.int IntKind.i32 x] : List Value).toArray w R := by
  have e : execR2 { P := Tryz.prog, loops := [], pur := purM, tails := [], joins := [], boxes := [] } Tryz.f147.results.toList R (Tryz.f147.body.getD .skip) (initF [Value.string
    s,
  Value.int IntKind.i32
    x] (Tryz.f147.ntmps - ([Value.string s,
  Value.int IntKind.i32 x] : List Value).length)) w = VC_crune s x w R := by kernel_rfl
  have hb : Tryz.f147.body = some (Tryz.f147.body.getD .skip) := by kernel_rfl
  exact calls_of_exec2' (P := Tryz.prog) (fn := Tryz.f147) (c := Tryz.f147.body.getD .skip) (args := [Value.string s,
  Value.int IntKind.i32 x]) (w := w) (R := R) purM_ok Tryz.func147 hb e h

def VC_irune (x : Int) (w : World) (R : Ending → World → Prop) : Prop :=
 bsp (decide (0 ≤ x) && decide (x < 128))
 (CallsS Tryz.prog 105 #[Value.string (ByteArray.mk #[45, 95, 46, 43]), Value.int IntKind.u8 (IntKind.u8.wrap x)] w
 fun (e : Ending) (w' : World) =>
 ∃ (x : Int),
 e = Ending.returned (Value.int IntKind.i64 x) ∧ KeptL [] w w' ∧ R (Ending.returned (Value.int IntKind.i64 x)) w')
 (bsp (x == 65533)
 (∃ (n : Nat),
 ∃ (w1 : World),
 RngP Tryz.prog 9 (Value.string (ByteArray.mk #[45, 95, 46, 43])) n w w1 ∧
 KeptL [] w w1 ∧
 ∃ (I : List Value → World → Prop), ∃ (m : List Value → World → Nat), I [] w1 ∧ ∀ (w' : World), I [] w' → False)
 (CallsS Tryz.prog 168 #[Value.int IntKind.i32 x] w fun (e : Ending) (w' : World) =>
 ∃ (x : Bool),
 e = Ending.returned (Value.bool x) ∧
 KeptL [] w w' ∧ bsp (!x) (R (Ending.returned (Value.int IntKind.i64 (-1))) w') False))
theorem vc_irune (x : Int) (w : World) (R : Ending → World → Prop) (h : VC_irune x w R) : Calls Tryz.prog 160 ([Value.string
    { data := #[45, 95, 46, 43] },
  Value.int IntKind.i32 x] : List Value).toArray w R := by
  have e : execR2 { P := Tryz.prog, loops := [(38, [])], pur := purM, tails := [], joins := [], boxes := [], rngs := [(175, 9)] } Tryz.f160.results.toList R (Tryz.f160.body.getD .skip) (initF [Value.string
    { data := #[45, 95, 46, 43] },
  Value.int IntKind.i32
    x] (Tryz.f160.ntmps - ([Value.string { data := #[45, 95, 46, 43] },
  Value.int IntKind.i32 x] : List Value).length)) w = VC_irune x w R := by kernel_rfl
  have hb : Tryz.f160.body = some (Tryz.f160.body.getD .skip) := by kernel_rfl
  exact calls_of_exec2' (P := Tryz.prog) (fn := Tryz.f160) (c := Tryz.f160.body.getD .skip) (args := [Value.string
    { data := #[45, 95, 46, 43] },
  Value.int IntKind.i32 x]) (w := w) (R := R) purM_ok Tryz.func160 hb e h

def VC_muser (s : ByteArray) (w : World) (R : Ending → World → Prop) : Prop :=
 bsp (decide ((↑s.size : Int) > 40)) (R (Ending.returned (Value.bool false)) w)
 (∃ (I : List Value → World → Prop),
 ∃ (m : List Value → World → Nat),
 I [Value.int IntKind.i64 0] w ∧
 ∀ (x : Int) (w' : World),
 I [Value.int IntKind.i64 x] w' →
 bsp (decide (x < (↑s.size : Int)))
 ((0 ≤ x ∧ x < (↑s.size : Int)) ∧
 gimp (!lowerB (at8 s x.toNat)) (0 ≤ x ∧ x < (↑s.size : Int)) ∧
 gimp (!lowerB (at8 s x.toNat) && !digitB (at8 s x.toNat)) (0 ≤ x ∧ x < (↑s.size : Int)) ∧
 bsp (!lowerB (at8 s x.toNat) && !digitB (at8 s x.toNat))
 (CallsS Tryz.prog 147
 #[Value.string (ByteArray.mk #[45, 95, 46, 43]), Value.int IntKind.i32 (IntKind.i32.wrap (at8 s x.toNat))]
 w' fun (e : Ending) (w'_1 : World) =>
 ∃ (x_1 : Bool),
 e = Ending.returned (Value.bool x_1) ∧
 KeptL [] w' w'_1 ∧
 bsp (true && !x_1) (R (Ending.returned (Value.bool false)) w'_1)
 (I [Value.int IntKind.i64 (IntKind.i64.wrap (x + 1))] w'_1 ∧
 m [Value.int IntKind.i64 (IntKind.i64.wrap (x + 1))] w'_1 < m [Value.int IntKind.i64 x] w'))
 (KeptL [] w' w' ∧
 I [Value.int IntKind.i64 (IntKind.i64.wrap (x + 1))] w' ∧
 m [Value.int IntKind.i64 (IntKind.i64.wrap (x + 1))] w' < m [Value.int IntKind.i64 x] w'))
 (R (Ending.returned (Value.bool true)) w'))
theorem vc_muser (s : ByteArray) (w : World) (R : Ending → World → Prop) (h : VC_muser s w R) : Calls Tryz.prog 114 ([Value.string
    s] : List Value).toArray w R := by
  have e : execR2 { P := Tryz.prog, loops := [(4, [(9, Ck.int IntKind.i64)])], pur := purM, tails := [], joins := [], boxes := [] } Tryz.f114.results.toList R (Tryz.f114.body.getD .skip) (initF [Value.string
    s] (Tryz.f114.ntmps - ([Value.string s] : List Value).length)) w = VC_muser s w R := by kernel_rfl
  have hb : Tryz.f114.body = some (Tryz.f114.body.getD .skip) := by kernel_rfl
  exact calls_of_exec2' (P := Tryz.prog) (fn := Tryz.f114) (c := Tryz.f114.body.getD .skip) (args := [Value.string
    s]) (w := w) (R := R) purM_ok Tryz.func114 hb e h

def VC_mparse (s : ByteArray) (w : World) (R : Ending → World → Prop) : Prop :=
 ∀ (n : Nat) (W : World),
 Loc w.heap.size [Blk.mk n 23 [Value.string (ByteArray.mk #[]), Value.string (ByteArray.mk #[])] 2] w W →
 CallsS Tryz.prog 112 #[Value.string s, Value.string (ByteArray.mk #[64])] W fun (e : Ending) (w' : World) =>
 ∃ (x : Int),
 e = Ending.returned (Value.int IntKind.i64 x) ∧
 KeptL [n] W w' ∧
 bsp (x != 1)
 (∀ (W : World),
 Loc w.heap.size [Blk.mk n 23 [Value.string (ByteArray.mk #[]), Value.string (ByteArray.mk #[])] (wrM 0)] w' W →
 R
 (Ending.returned
 (Value.tuple
 #[Value.agg #[Value.string (ByteArray.mk #[]), Value.string (ByteArray.mk #[])], Value.int IntKind.i64 3]))
 W)
 (CallsS Tryz.prog 113 #[Value.string s, Value.string (ByteArray.mk #[64])] w' fun (e : Ending) (w'_1 : World) =>
 ∃ (x : ByteArray),
 ∃ (x_1 : ByteArray),
 ∃ (x_2 : Bool),
 e = Ending.returned (Value.tuple #[Value.string x, Value.string x_1, Value.bool x_2]) ∧
 KeptL [n] w' w'_1 ∧
 CallsS Tryz.prog 114 #[Value.string x] w'_1 fun (e : Ending) (w' : World) =>
 ∃ (x_3 : Bool),
 e = Ending.returned (Value.bool x_3) ∧
 KeptL [n] w'_1 w' ∧
 bsp (!x_3)
 (∀ (W : World),
 Loc w.heap.size
 [Blk.mk n 23 [Value.string (ByteArray.mk #[]), Value.string (ByteArray.mk #[])] (wrM 0)] w' W →
 R
 (Ending.returned
 (Value.tuple
 #[Value.agg #[Value.string (ByteArray.mk #[]), Value.string (ByteArray.mk #[])],
 Value.int IntKind.i64 12]))
 W)
 (CallsS Tryz.prog 49 #[Value.string x_1] w' fun (e : Ending) (w'_2 : World) =>
 ∃ (x_4 : Int),
 ∃ (x_5 : Int),
 e = Ending.returned (Value.tuple #[Value.int IntKind.i64 x_4, Value.int IntKind.i64 x_5]) ∧
 KeptL [n] w' w'_2 ∧
 bsp (x_5 != 0)
 (∀ (W : World),
 Loc w.heap.size
 [Blk.mk n 23 [Value.string (ByteArray.mk #[]), Value.string (ByteArray.mk #[])] (wrM 0)] w'_2
 W →
 R
 (Ending.returned
 (Value.tuple
 #[Value.agg #[Value.string (ByteArray.mk #[]), Value.string (ByteArray.mk #[])],
 Value.int IntKind.i64 x_5]))
 W)
 (∀ (W : World),
 Loc w.heap.size [Blk.mk n 23 [Value.string x, Value.string x_1] (wrM 0)] w'_2 W →
 R
 (Ending.returned
 (Value.tuple #[Value.agg #[Value.string x, Value.string x_1], Value.int IntKind.i64 0]))
 W)))
theorem vc_mparse (s : ByteArray) (w : World) (R : Ending → World → Prop) (h : VC_mparse s w R) : Calls Tryz.prog 67 ([Value.string
    s] : List Value).toArray w R := by
  have e : execR2 { P := Tryz.prog, loops := [], pur := purM, tails := [], joins := [], boxes := [] } Tryz.f67.results.toList R (Tryz.f67.body.getD .skip) (initF [Value.string
    s] (Tryz.f67.ntmps - ([Value.string s] : List Value).length)) w = VC_mparse s w R := by kernel_rfl
  have hb : Tryz.f67.body = some (Tryz.f67.body.getD .skip) := by kernel_rfl
  exact calls_of_exec2' (P := Tryz.prog) (fn := Tryz.f67) (c := Tryz.f67.body.getD .skip) (args := [Value.string
    s]) (w := w) (R := R) purM_ok Tryz.func67 hb e h

def VC_mstr (a : ByteArray) (b : ByteArray) (w : World) (R : Ending → World → Prop) : Prop :=
 ∀ (n : Nat),
 (9223372036854775807 - (↑(a.size + (ByteArray.mk #[64]).size) : Int)).NonNeg ∧
 (9223372036854775807 - (↑((a ++ ByteArray.mk #[64]).size + b.size) : Int)).NonNeg ∧
 ∀ (W : World),
 Loc w.heap.size [Blk.mk n 23 [Value.string a, Value.string b] 2] w W →
 R (Ending.returned (Value.string (a ++ ByteArray.mk #[64] ++ b))) W
theorem vc_mstr (a : ByteArray) (b : ByteArray) (w : World) (R : Ending → World → Prop) (h : VC_mstr a b w R) : Calls Tryz.prog 40 ([Value.agg
    #[Value.string a, Value.string b]] : List Value).toArray w R := by
  have e : execR2 { P := Tryz.prog, loops := [], pur := purM, tails := [], joins := [], boxes := [] } Tryz.f40.results.toList R (Tryz.f40.body.getD .skip) (initF [Value.agg
    #[Value.string a,
      Value.string
        b]] (Tryz.f40.ntmps - ([Value.agg
    #[Value.string a, Value.string b]] : List Value).length)) w = VC_mstr a b w R := by kernel_rfl
  have hb : Tryz.f40.body = some (Tryz.f40.body.getD .skip) := by kernel_rfl
  exact calls_of_exec2' (P := Tryz.prog) (fn := Tryz.f40) (c := Tryz.f40.body.getD .skip) (args := [Value.agg
    #[Value.string a, Value.string b]]) (w := w) (R := R) purM_ok Tryz.func40 hb e h

def VC_menv (fu : ByteArray) (fs : ByteArray) (tu : ByteArray) (ts : ByteArray) (n : Int) (d : Int) (sj : ByteArray) (hp : Option Addr) (hn : Nat) (hc : Nat) (bd : ByteArray) (w : World) (R : Ending → World → Prop) : Prop :=
 ∀ (n_1 : Nat) (W : World),
 Loc w.heap.size
 [Blk.mk n_1 26
 [Value.string fu, Value.string fs, Value.string tu, Value.string ts, Value.int IntKind.i64 n,
 Value.int IntKind.i64 d, Value.string sj, Value.slice hp hn hc, Value.string bd]
 2]
 w W →
 CallsS Tryz.prog 114 #[Value.string fu] W fun (e : Ending) (w' : World) =>
 ∃ (x : Bool),
 e = Ending.returned (Value.bool x) ∧
 KeptL [n_1] W w' ∧
 bsp (!x) (R (Ending.returned (Value.int IntKind.i64 12)) w')
 (CallsS Tryz.prog 49 #[Value.string fs] w' fun (e : Ending) (w'_1 : World) =>
 ∃ (x : Int),
 ∃ (x_1 : Int),
 e = Ending.returned (Value.tuple #[Value.int IntKind.i64 x, Value.int IntKind.i64 x_1]) ∧
 KeptL [n_1] w' w'_1 ∧
 bsp (x_1 != 0) (R (Ending.returned (Value.int IntKind.i64 x_1)) w'_1)
 (CallsS Tryz.prog 114 #[Value.string tu] w'_1 fun (e : Ending) (w' : World) =>
 ∃ (x : Bool),
 e = Ending.returned (Value.bool x) ∧
 KeptL [n_1] w'_1 w' ∧
 ∃ (x_2 : ByteArray),
 gimp (!!x) (w'.cell? (Addr.mk n_1 (0 + 2) none) = some (Value.string x_2)) ∧
 bsp (!x || x_2.toList == []) (R (Ending.returned (Value.int IntKind.i64 12)) w')
 (CallsS Tryz.prog 49 #[Value.string ts] w' fun (e : Ending) (w'_2 : World) =>
 ∃ (x : Int),
 ∃ (x_3 : Int),
 e = Ending.returned (Value.tuple #[Value.int IntKind.i64 x, Value.int IntKind.i64 x_3]) ∧
 KeptL [n_1] w' w'_2 ∧
 bsp (x_3 != 0) (R (Ending.returned (Value.int IntKind.i64 x_3)) w'_2)
 (∃ (x : Int),
 gimp (!decide (n < 0))
 (w'_2.cell? (Addr.mk n_1 (0 + 4) none) = some (Value.int IntKind.i64 x)) ∧
 bsp (decide (n < 0) || decide (x > 2147483647))
 (R (Ending.returned (Value.int IntKind.i64 2)) w'_2)
 (bsp (!minB d) (R (Ending.returned (Value.int IntKind.i64 13)) w'_2)
 (R (Ending.returned (Value.int IntKind.i64 0)) w'_2))))))
theorem vc_menv (fu : ByteArray) (fs : ByteArray) (tu : ByteArray) (ts : ByteArray) (n : Int) (d : Int) (sj : ByteArray) (hp : Option Addr) (hn : Nat) (hc : Nat) (bd : ByteArray) (w : World) (R : Ending → World → Prop) (h : VC_menv fu fs tu ts n d sj hp hn hc bd w R) : Calls Tryz.prog 77 ([Value.agg
    #[Value.string fu, Value.string fs, Value.string tu, Value.string ts, Value.int IntKind.i64 n,
      Value.int IntKind.i64 d, Value.string sj, Value.slice hp hn hc, Value.string bd]] : List Value).toArray w R := by
  have e : execR2 { P := Tryz.prog, loops := [], pur := purM, tails := [], joins := [], boxes := [] } Tryz.f77.results.toList R (Tryz.f77.body.getD .skip) (initF [Value.agg
    #[Value.string fu, Value.string fs, Value.string tu, Value.string ts, Value.int IntKind.i64 n,
      Value.int IntKind.i64 d, Value.string sj, Value.slice hp hn hc,
      Value.string
        bd]] (Tryz.f77.ntmps - ([Value.agg
    #[Value.string fu, Value.string fs, Value.string tu, Value.string ts, Value.int IntKind.i64 n,
      Value.int IntKind.i64 d, Value.string sj, Value.slice hp hn hc,
      Value.string bd]] : List Value).length)) w = VC_menv fu fs tu ts n d sj hp hn hc bd w R := by kernel_rfl
  have hb : Tryz.f77.body = some (Tryz.f77.body.getD .skip) := by kernel_rfl
  exact calls_of_exec2' (P := Tryz.prog) (fn := Tryz.f77) (c := Tryz.f77.body.getD .skip) (args := [Value.agg
    #[Value.string fu, Value.string fs, Value.string tu, Value.string ts, Value.int IntKind.i64 n,
      Value.int IntKind.i64 d, Value.string sj, Value.slice hp hn hc,
      Value.string bd]]) (w := w) (R := R) purM_ok Tryz.func77 hb e h

def VC_mcheck (fu : ByteArray) (fs : ByteArray) (tu : ByteArray) (ts : ByteArray) (n : Int) (d : Int) (sj : ByteArray) (hp : Option Addr) (hn : Nat) (hc : Nat) (bd : ByteArray) (w : World) (R : Ending → World → Prop) : Prop :=
 ∀ (n_1 : Nat) (W : World),
 Loc w.heap.size
 [Blk.mk n_1 26
 [Value.string fu, Value.string fs, Value.string tu, Value.string ts, Value.int IntKind.i64 n,
 Value.int IntKind.i64 d, Value.string sj, Value.slice hp hn hc, Value.string bd]
 2]
 w W →
 CallsS Tryz.prog 77
 #[Value.agg
 #[Value.string fu, Value.string fs, Value.string tu, Value.string ts, Value.int IntKind.i64 n,
 Value.int IntKind.i64 d, Value.string sj, Value.slice hp hn hc, Value.string bd]]
 W fun (e : Ending) (w' : World) =>
 ∃ (x : Int),
 e = Ending.returned (Value.int IntKind.i64 x) ∧
 KeptL [n_1] W w' ∧
 bsp (x != 0) (R (Ending.returned (Value.int IntKind.i64 x)) w')
 (bsp (decide ((↑sj.size : Int) > 200)) (R (Ending.returned (Value.int IntKind.i64 5)) w')
 (∃ (I : List Value → World → Prop),
 ∃ (m : List Value → World → Nat),
 I [Value.int IntKind.i64 0] w' ∧
 ∀ (x : Int) (w' : World),
 I [Value.int IntKind.i64 x] w' →
 Loc w.heap.size
 [Blk.mk n_1 26
 [Value.string fu, Value.string fs, Value.string tu, Value.string ts, Value.int IntKind.i64 n,
 Value.int IntKind.i64 d, Value.string sj, Value.slice hp hn hc, Value.string bd]
 0]
 w' w' →
 bsp (decide (x < (↑sj.size : Int)))
 ((0 ≤ x ∧ x < (↑sj.size : Int)) ∧
 bsp (!visB (at8 sj x.toNat) && at8 sj x.toNat != 32) (R (Ending.returned (Value.int IntKind.i64 6)) w')
 (I [Value.int IntKind.i64 (IntKind.i64.wrap (x + 1))] w' ∧
 m [Value.int IntKind.i64 (IntKind.i64.wrap (x + 1))] w' < m [Value.int IntKind.i64 x] w'))
 (∀ (W : World),
 Loc w.heap.size
 [Blk.mk n_1 26
 [Value.string fu, Value.string fs, Value.string tu, Value.string ts, Value.int IntKind.i64 n,
 Value.int IntKind.i64 d, Value.string sj, Value.slice hp hn hc, Value.string bd]
 0]
 w' W →
 ∃ (S : World → Prop),
 S W ∧
 ∃ (x : ByteArray),
 (∀ (w' : World), S w' → w'.cell? (Addr.mk n_1 (0 + 6) none) = some (Value.string x)) ∧
 ∃ (x_1 : ByteArray),
 (∀ (w' : World), S w' → w'.cell? (Addr.mk n_1 (0 + 6) none) = some (Value.string x_1)) ∧
 CallsS Tryz.prog 79 #[Value.string x] W fun (e : Ending) (w' : World) =>
 ∃ (x : ByteArray),
 e = Ending.returned (Value.string x) ∧
 S w' ∧
 KeptL [n_1] W w' ∧
 bsp (!x.toList == x_1.toList) (R (Ending.returned (Value.int IntKind.i64 3)) w')
 (bsp (decide ((↑hn : Int) > 16)) (R (Ending.returned (Value.int IntKind.i64 9)) w')
 (∃ (I : List Value → World → Prop),
 ∃ (m : List Value → World → Nat),
 I [Value.int IntKind.i64 0] w' ∧
 ∀ (x : Int) (w' : World),
 I [Value.int IntKind.i64 x] w' →
 Loc w.heap.size
 [Blk.mk n_1 26
 [Value.string fu, Value.string fs, Value.string tu, Value.string ts,
 Value.int IntKind.i64 n, Value.int IntKind.i64 d, Value.string sj,
 Value.slice hp hn hc, Value.string bd]
 0]
 w' w' →
 bsp (decide (x < (↑hn : Int)))
 (nn true hp fun (b o : Nat) =>
 (0 ≤ x ∧ x < (↑hn : Int)) ∧
 ∃ (x_2 : ByteArray),
 w'.cell? (Addr.mk b (o + x.toNat) none) = some (Value.string x_2) ∧
 CallsS Tryz.prog 49 #[Value.string x_2] w' fun (e : Ending) (w'_1 : World) =>
 ∃ (x_3 : Int),
 ∃ (x_4 : Int),
 e =
 Ending.returned
 (Value.tuple #[Value.int IntKind.i64 x_3, Value.int IntKind.i64 x_4]) ∧
 KeptL [n_1] w' w'_1 ∧
 bsp (x_4 != 0) (R (Ending.returned (Value.int IntKind.i64 x_4)) w'_1)
 ((0 ≤ x ∧ x ≤ (↑hc : Int)) ∧
 CallsS Tryz.prog 80 #[Value.slice hp x.toNat hc, Value.string x_2] w'_1
 fun (e : Ending) (w'_2 : World) =>
 ∃ (x_5 : Bool),
 e = Ending.returned (Value.bool x_5) ∧
 KeptL [n_1] w'_1 w'_2 ∧
 bsp x_5 (R (Ending.returned (Value.int IntKind.i64 24)) w'_2)
 (I [Value.int IntKind.i64 (IntKind.i64.wrap (x + 1))] w'_2 ∧
 m [Value.int IntKind.i64 (IntKind.i64.wrap (x + 1))] w'_2 <
 m [Value.int IntKind.i64 x] w')))
 (bsp (decide ((↑bd.size : Int) > 32768))
 (R (Ending.returned (Value.int IntKind.i64 5)) w')
 (R (Ending.returned (Value.int IntKind.i64 0)) w')))))))
theorem vc_mcheck (fu : ByteArray) (fs : ByteArray) (tu : ByteArray) (ts : ByteArray) (n : Int) (d : Int) (sj : ByteArray) (hp : Option Addr) (hn : Nat) (hc : Nat) (bd : ByteArray) (w : World) (R : Ending → World → Prop) (h : VC_mcheck fu fs tu ts n d sj hp hn hc bd w R) : Calls Tryz.prog 38 ([Value.agg
    #[Value.string fu, Value.string fs, Value.string tu, Value.string ts, Value.int IntKind.i64 n,
      Value.int IntKind.i64 d, Value.string sj, Value.slice hp hn hc, Value.string bd]] : List Value).toArray w R := by
  have e : execR2 { P := Tryz.prog, loops := [(7, [(22, Ck.int IntKind.i64)]), (18, [(50, Ck.int IntKind.i64)])], pur := purM, tails := [(13, 2)], joins := [], boxes := [] } Tryz.f38.results.toList R (Tryz.f38.body.getD .skip) (initF [Value.agg
    #[Value.string fu, Value.string fs, Value.string tu, Value.string ts, Value.int IntKind.i64 n,
      Value.int IntKind.i64 d, Value.string sj, Value.slice hp hn hc,
      Value.string
        bd]] (Tryz.f38.ntmps - ([Value.agg
    #[Value.string fu, Value.string fs, Value.string tu, Value.string ts, Value.int IntKind.i64 n,
      Value.int IntKind.i64 d, Value.string sj, Value.slice hp hn hc,
      Value.string bd]] : List Value).length)) w = VC_mcheck fu fs tu ts n d sj hp hn hc bd w R := by kernel_rfl
  have hb : Tryz.f38.body = some (Tryz.f38.body.getD .skip) := by kernel_rfl
  exact calls_of_exec2' (P := Tryz.prog) (fn := Tryz.f38) (c := Tryz.f38.body.getD .skip) (args := [Value.agg
    #[Value.string fu, Value.string fs, Value.string tu, Value.string ts, Value.int IntKind.i64 n,
      Value.int IntKind.i64 d, Value.string sj, Value.slice hp hn hc,
      Value.string bd]]) (w := w) (R := R) purM_ok Tryz.func38 hb e h

def VC_mclone (fu : ByteArray) (fs : ByteArray) (tu : ByteArray) (ts : ByteArray) (n : Int) (d : Int) (sj : ByteArray) (hp : Option Addr) (hn : Nat) (hc : Nat) (bd : ByteArray) (w : World) (R : Ending → World → Prop) : Prop :=
 ∀ (n_1 n_2 : Nat) (W : World),
 Loc w.heap.size
 [Blk.mk n_2 26
 [Value.string (ByteArray.mk #[]), Value.string (ByteArray.mk #[]), Value.string (ByteArray.mk #[]),
 Value.string (ByteArray.mk #[]), Value.int IntKind.i64 0, Value.int IntKind.i64 0,
 Value.string (ByteArray.mk #[]), Value.slice none 0 0, Value.string (ByteArray.mk #[])]
 2,
 Blk.mk n_1 26
 [Value.string fu, Value.string fs, Value.string tu, Value.string ts, Value.int IntKind.i64 n,
 Value.int IntKind.i64 d, Value.string sj, Value.slice hp hn hc, Value.string bd]
 2]
 w W →
 CallsS Tryz.prog 95 #[Value.slice hp hn hc] W fun (e : Ending) (w' : World) =>
 ∃ (p : Option Addr),
 ∃ (n_3 : Nat),
 ∃ (c : Nat),
 e = Ending.returned (Value.slice p n_3 c) ∧
 KeptL [n_2, n_1] W w' ∧
 ∀ (W : World),
 Loc w.heap.size
 [Blk.mk n_2 26
 [Value.string fu, Value.string fs, Value.string tu, Value.string ts, Value.int IntKind.i64 n,
 Value.int IntKind.i64 d, Value.string sj, Value.slice p n_3 c, Value.string bd]
 (wrM 0),
 Blk.mk n_1 26
 [Value.string fu, Value.string fs, Value.string tu, Value.string ts, Value.int IntKind.i64 n,
 Value.int IntKind.i64 d, Value.string sj, Value.slice p n_3 c, Value.string bd]
 (wrM 0)]
 w' W →
 R
 (Ending.returned
 (Value.agg
 #[Value.string fu, Value.string fs, Value.string tu, Value.string ts, Value.int IntKind.i64 n,
 Value.int IntKind.i64 d, Value.string sj, Value.slice p n_3 c, Value.string bd]))
 W
theorem vc_mclone (fu : ByteArray) (fs : ByteArray) (tu : ByteArray) (ts : ByteArray) (n : Int) (d : Int) (sj : ByteArray) (hp : Option Addr) (hn : Nat) (hc : Nat) (bd : ByteArray) (w : World) (R : Ending → World → Prop) (h : VC_mclone fu fs tu ts n d sj hp hn hc bd w R) : Calls Tryz.prog 53 ([Value.agg
    #[Value.string fu, Value.string fs, Value.string tu, Value.string ts, Value.int IntKind.i64 n,
      Value.int IntKind.i64 d, Value.string sj, Value.slice hp hn hc, Value.string bd]] : List Value).toArray w R := by
  have e : execR2 { P := Tryz.prog, loops := [], pur := purM, tails := [], joins := [], boxes := [] } Tryz.f53.results.toList R (Tryz.f53.body.getD .skip) (initF [Value.agg
    #[Value.string fu, Value.string fs, Value.string tu, Value.string ts, Value.int IntKind.i64 n,
      Value.int IntKind.i64 d, Value.string sj, Value.slice hp hn hc,
      Value.string
        bd]] (Tryz.f53.ntmps - ([Value.agg
    #[Value.string fu, Value.string fs, Value.string tu, Value.string ts, Value.int IntKind.i64 n,
      Value.int IntKind.i64 d, Value.string sj, Value.slice hp hn hc,
      Value.string bd]] : List Value).length)) w = VC_mclone fu fs tu ts n d sj hp hn hc bd w R := by kernel_rfl
  have hb : Tryz.f53.body = some (Tryz.f53.body.getD .skip) := by kernel_rfl
  exact calls_of_exec2' (P := Tryz.prog) (fn := Tryz.f53) (c := Tryz.f53.body.getD .skip) (args := [Value.agg
    #[Value.string fu, Value.string fs, Value.string tu, Value.string ts, Value.int IntKind.i64 n,
      Value.int IntKind.i64 d, Value.string sj, Value.slice hp hn hc,
      Value.string bd]]) (w := w) (R := R) purM_ok Tryz.func53 hb e h

def VC_mequal (fu : ByteArray) (fs : ByteArray) (tu : ByteArray) (ts : ByteArray) (n : Int) (d : Int) (sj : ByteArray) (hp : Option Addr) (hn : Nat) (hc : Nat) (bd : ByteArray) (fuy : ByteArray) (fsy : ByteArray) (tuy : ByteArray) (tsy : ByteArray) (ny : Int) (dy : Int) (sjy : ByteArray) (hpy : Option Addr) (hny : Nat) (hcy : Nat) (bdy : ByteArray) (w : World) (R : Ending → World → Prop) : Prop :=
 ∀ (n_1 n_2 : Nat),
 ∃ (r : Bool),
 EqP Tryz.prog 23 (Value.agg #[Value.string fu, Value.string fs]) (Value.agg #[Value.string fuy, Value.string fsy]) r ∧
 ∃ (x : ByteArray),
 ∃ (x_1 : ByteArray),
 gimp r
 (∀ (W : World),
 Loc w.heap.size
 [Blk.mk n_2 26
 [Value.string fuy, Value.string fsy, Value.string tuy, Value.string tsy, Value.int IntKind.i64 ny,
 Value.int IntKind.i64 dy, Value.string sjy, Value.slice hpy hny hcy, Value.string bdy]
 2,
 Blk.mk n_1 26
 [Value.string fu, Value.string fs, Value.string tu, Value.string ts, Value.int IntKind.i64 n,
 Value.int IntKind.i64 d, Value.string sj, Value.slice hp hn hc, Value.string bd]
 2]
 w W →
 AtL W n_1 (0 + 2) [Value.string x, Value.string x_1]) ∧
 ∃ (x_2 : ByteArray),
 ∃ (x_3 : ByteArray),
 gimp r
 (∀ (W : World),
 Loc w.heap.size
 [Blk.mk n_2 26
 [Value.string fuy, Value.string fsy, Value.string tuy, Value.string tsy, Value.int IntKind.i64 ny,
 Value.int IntKind.i64 dy, Value.string sjy, Value.slice hpy hny hcy, Value.string bdy]
 2,
 Blk.mk n_1 26
 [Value.string fu, Value.string fs, Value.string tu, Value.string ts, Value.int IntKind.i64 n,
 Value.int IntKind.i64 d, Value.string sj, Value.slice hp hn hc, Value.string bd]
 2]
 w W →
 AtL W n_2 (0 + 2) [Value.string x_2, Value.string x_3]) ∧
 ∃ (r_1 : Bool),
 gimp r
 (EqP Tryz.prog 23 (Value.agg #[Value.string x, Value.string x_1])
 (Value.agg #[Value.string x_2, Value.string x_3]) r_1) ∧
 ∃ (x : Int),
 gimp (r && r_1)
 (∀ (W : World),
 Loc w.heap.size
 [Blk.mk n_2 26
 [Value.string fuy, Value.string fsy, Value.string tuy, Value.string tsy, Value.int IntKind.i64 ny,
 Value.int IntKind.i64 dy, Value.string sjy, Value.slice hpy hny hcy, Value.string bdy]
 2,
 Blk.mk n_1 26
 [Value.string fu, Value.string fs, Value.string tu, Value.string ts, Value.int IntKind.i64 n,
 Value.int IntKind.i64 d, Value.string sj, Value.slice hp hn hc, Value.string bd]
 2]
 w W →
 W.cell? (Addr.mk n_1 (0 + 4) none) = some (Value.int IntKind.i64 x)) ∧
 ∃ (x_4 : Int),
 gimp (r && r_1)
 (∀ (W : World),
 Loc w.heap.size
 [Blk.mk n_2 26
 [Value.string fuy, Value.string fsy, Value.string tuy, Value.string tsy, Value.int IntKind.i64 ny,
 Value.int IntKind.i64 dy, Value.string sjy, Value.slice hpy hny hcy, Value.string bdy]
 2,
 Blk.mk n_1 26
 [Value.string fu, Value.string fs, Value.string tu, Value.string ts, Value.int IntKind.i64 n,
 Value.int IntKind.i64 d, Value.string sj, Value.slice hp hn hc, Value.string bd]
 2]
 w W →
 W.cell? (Addr.mk n_2 (0 + 4) none) = some (Value.int IntKind.i64 x_4)) ∧
 ∃ (x_5 : Int),
 gimp (r && r_1 && x == x_4)
 (∀ (W : World),
 Loc w.heap.size
 [Blk.mk n_2 26
 [Value.string fuy, Value.string fsy, Value.string tuy, Value.string tsy,
 Value.int IntKind.i64 ny, Value.int IntKind.i64 dy, Value.string sjy, Value.slice hpy hny hcy,
 Value.string bdy]
 2,
 Blk.mk n_1 26
 [Value.string fu, Value.string fs, Value.string tu, Value.string ts, Value.int IntKind.i64 n,
 Value.int IntKind.i64 d, Value.string sj, Value.slice hp hn hc, Value.string bd]
 2]
 w W →
 W.cell? (Addr.mk n_1 (0 + 5) none) = some (Value.int IntKind.i64 x_5)) ∧
 ∃ (x_6 : Int),
 gimp (r && r_1 && x == x_4)
 (∀ (W : World),
 Loc w.heap.size
 [Blk.mk n_2 26
 [Value.string fuy, Value.string fsy, Value.string tuy, Value.string tsy,
 Value.int IntKind.i64 ny, Value.int IntKind.i64 dy, Value.string sjy, Value.slice hpy hny hcy,
 Value.string bdy]
 2,
 Blk.mk n_1 26
 [Value.string fu, Value.string fs, Value.string tu, Value.string ts, Value.int IntKind.i64 n,
 Value.int IntKind.i64 d, Value.string sj, Value.slice hp hn hc, Value.string bd]
 2]
 w W →
 W.cell? (Addr.mk n_2 (0 + 5) none) = some (Value.int IntKind.i64 x_6)) ∧
 ∃ (x_7 : ByteArray),
 gimp (r && r_1 && x == x_4 && x_5 == x_6)
 (∀ (W : World),
 Loc w.heap.size
 [Blk.mk n_2 26
 [Value.string fuy, Value.string fsy, Value.string tuy, Value.string tsy,
 Value.int IntKind.i64 ny, Value.int IntKind.i64 dy, Value.string sjy,
 Value.slice hpy hny hcy, Value.string bdy]
 2,
 Blk.mk n_1 26
 [Value.string fu, Value.string fs, Value.string tu, Value.string ts, Value.int IntKind.i64 n,
 Value.int IntKind.i64 d, Value.string sj, Value.slice hp hn hc, Value.string bd]
 2]
 w W →
 W.cell? (Addr.mk n_1 (0 + 6) none) = some (Value.string x_7)) ∧
 ∃ (x_8 : ByteArray),
 gimp (r && r_1 && x == x_4 && x_5 == x_6)
 (∀ (W : World),
 Loc w.heap.size
 [Blk.mk n_2 26
 [Value.string fuy, Value.string fsy, Value.string tuy, Value.string tsy,
 Value.int IntKind.i64 ny, Value.int IntKind.i64 dy, Value.string sjy,
 Value.slice hpy hny hcy, Value.string bdy]
 2,
 Blk.mk n_1 26
 [Value.string fu, Value.string fs, Value.string tu, Value.string ts,
 Value.int IntKind.i64 n, Value.int IntKind.i64 d, Value.string sj, Value.slice hp hn hc,
 Value.string bd]
 2]
 w W →
 W.cell? (Addr.mk n_2 (0 + 6) none) = some (Value.string x_8)) ∧
 ∃ (p : Option Addr),
 ∃ (n_3 : Nat),
 ∃ (c : Nat),
 gimp (r && r_1 && x == x_4 && x_5 == x_6 && x_7.toList == x_8.toList)
 (∀ (W : World),
 Loc w.heap.size
 [Blk.mk n_2 26
 [Value.string fuy, Value.string fsy, Value.string tuy, Value.string tsy,
 Value.int IntKind.i64 ny, Value.int IntKind.i64 dy, Value.string sjy,
 Value.slice hpy hny hcy, Value.string bdy]
 2,
 Blk.mk n_1 26
 [Value.string fu, Value.string fs, Value.string tu, Value.string ts,
 Value.int IntKind.i64 n, Value.int IntKind.i64 d, Value.string sj,
 Value.slice hp hn hc, Value.string bd]
 2]
 w W →
 W.cell? (Addr.mk n_1 (0 + 7) none) = some (Value.slice p n_3 c)) ∧
 ∃ (p_1 : Option Addr),
 ∃ (n_4 : Nat),
 ∃ (c_1 : Nat),
 gimp (r && r_1 && x == x_4 && x_5 == x_6 && x_7.toList == x_8.toList)
 (∀ (W : World),
 Loc w.heap.size
 [Blk.mk n_2 26
 [Value.string fuy, Value.string fsy, Value.string tuy, Value.string tsy,
 Value.int IntKind.i64 ny, Value.int IntKind.i64 dy, Value.string sjy,
 Value.slice hpy hny hcy, Value.string bdy]
 2,
 Blk.mk n_1 26
 [Value.string fu, Value.string fs, Value.string tu, Value.string ts,
 Value.int IntKind.i64 n, Value.int IntKind.i64 d, Value.string sj,
 Value.slice hp hn hc, Value.string bd]
 2]
 w W →
 W.cell? (Addr.mk n_2 (0 + 7) none) = some (Value.slice p_1 n_4 c_1)) ∧
 ∀ (W : World),
 Loc w.heap.size
 [Blk.mk n_2 26
 [Value.string fuy, Value.string fsy, Value.string tuy, Value.string tsy,
 Value.int IntKind.i64 ny, Value.int IntKind.i64 dy, Value.string sjy,
 Value.slice hpy hny hcy, Value.string bdy]
 2,
 Blk.mk n_1 26
 [Value.string fu, Value.string fs, Value.string tu, Value.string ts,
 Value.int IntKind.i64 n, Value.int IntKind.i64 d, Value.string sj,
 Value.slice hp hn hc, Value.string bd]
 2]
 w W →
 bsp (r && r_1 && x == x_4 && x_5 == x_6 && x_7.toList == x_8.toList)
 (CallsS Tryz.prog 48 #[Value.slice p n_3 c, Value.slice p_1 n_4 c_1] W
 fun (e : Ending) (w' : World) =>
 ∃ (x : Bool),
 e = Ending.returned (Value.bool x) ∧
 KeptL [n_2, n_1] W w' ∧
 ∃ (x_9 : ByteArray),
 gimp (true && x)
 (w'.cell? (Addr.mk n_1 (0 + 8) none) = some (Value.string x_9)) ∧
 ∃ (x_10 : ByteArray),
 gimp (true && x)
 (w'.cell? (Addr.mk n_2 (0 + 8) none) = some (Value.string x_10)) ∧
 R (Ending.returned (Value.bool (true && x && x_9.toList == x_10.toList))) w')
 (KeptL [n_2, n_1] W W ∧
 ∃ (x : ByteArray),
 True ∧
 ∃ (x_9 : ByteArray),
 True ∧ R (Ending.returned (Value.bool (false && x.toList == x_9.toList))) W)
theorem vc_mequal (fu : ByteArray) (fs : ByteArray) (tu : ByteArray) (ts : ByteArray) (n : Int) (d : Int) (sj : ByteArray) (hp : Option Addr) (hn : Nat) (hc : Nat) (bd : ByteArray) (fuy : ByteArray) (fsy : ByteArray) (tuy : ByteArray) (tsy : ByteArray) (ny : Int) (dy : Int) (sjy : ByteArray) (hpy : Option Addr) (hny : Nat) (hcy : Nat) (bdy : ByteArray) (w : World) (R : Ending → World → Prop) (h : VC_mequal fu fs tu ts n d sj hp hn hc bd fuy fsy tuy tsy ny dy sjy hpy hny hcy bdy w R) : Calls Tryz.prog 16 ([Value.agg
    #[Value.string fu, Value.string fs, Value.string tu, Value.string ts, Value.int IntKind.i64 n,
      Value.int IntKind.i64 d, Value.string sj, Value.slice hp hn hc, Value.string bd],
  Value.agg
    #[Value.string fuy, Value.string fsy, Value.string tuy, Value.string tsy, Value.int IntKind.i64 ny,
      Value.int IntKind.i64 dy, Value.string sjy, Value.slice hpy hny hcy,
      Value.string bdy]] : List Value).toArray w R := by
  have e : execR2 { P := Tryz.prog, loops := [], pur := purM, tails := [], joins := [], boxes := [] } Tryz.f16.results.toList R (Tryz.f16.body.getD .skip) (initF [Value.agg
    #[Value.string fu, Value.string fs, Value.string tu, Value.string ts, Value.int IntKind.i64 n,
      Value.int IntKind.i64 d, Value.string sj, Value.slice hp hn hc, Value.string bd],
  Value.agg
    #[Value.string fuy, Value.string fsy, Value.string tuy, Value.string tsy, Value.int IntKind.i64 ny,
      Value.int IntKind.i64 dy, Value.string sjy, Value.slice hpy hny hcy,
      Value.string
        bdy]] (Tryz.f16.ntmps - ([Value.agg
    #[Value.string fu, Value.string fs, Value.string tu, Value.string ts, Value.int IntKind.i64 n,
      Value.int IntKind.i64 d, Value.string sj, Value.slice hp hn hc, Value.string bd],
  Value.agg
    #[Value.string fuy, Value.string fsy, Value.string tuy, Value.string tsy, Value.int IntKind.i64 ny,
      Value.int IntKind.i64 dy, Value.string sjy, Value.slice hpy hny hcy,
      Value.string
        bdy]] : List Value).length)) w = VC_mequal fu fs tu ts n d sj hp hn hc bd fuy fsy tuy tsy ny dy sjy hpy hny hcy bdy w R := by kernel_rfl
  have hb : Tryz.f16.body = some (Tryz.f16.body.getD .skip) := by kernel_rfl
  exact calls_of_exec2' (P := Tryz.prog) (fn := Tryz.f16) (c := Tryz.f16.body.getD .skip) (args := [Value.agg
    #[Value.string fu, Value.string fs, Value.string tu, Value.string ts, Value.int IntKind.i64 n,
      Value.int IntKind.i64 d, Value.string sj, Value.slice hp hn hc, Value.string bd],
  Value.agg
    #[Value.string fuy, Value.string fsy, Value.string tuy, Value.string tsy, Value.int IntKind.i64 ny,
      Value.int IntKind.i64 dy, Value.string sjy, Value.slice hpy hny hcy,
      Value.string bdy]]) (w := w) (R := R) purM_ok Tryz.func16 hb e h

def VC_join (p : Option Addr) (n : Nat) (c : Nat) (s : ByteArray) (w : World) (R : Ending → World → Prop) : Prop :=
 bsp ((↑n : Int) == 0) (R (Ending.returned (Value.string (ByteArray.mk #[]))) w)
 (bsp ((↑n : Int) == 1)
 (nn true p fun (b o : Nat) =>
 ((0 : Int) ≤ 0 ∧ 0 < (↑n : Int)) ∧
 ∃ (x : ByteArray), w.cell? (Addr.mk b o none) = some (Value.string x) ∧ R (Ending.returned (Value.string x)) w)
 (bsp (decide ((↑s.size : Int) > 0))
 ((IntKind.i64 = IntKind.i64 ∧ IntKind.i64.wrap ((↑n : Int) - 1) ≠ 0) ∧
 bsp (decide ((↑s.size : Int) ≥ IntKind.i64.wrap (Int.tdiv 9223372036854775807 (IntKind.i64.wrap ((↑n : Int) - 1)))))
 False
 (∃ (I : List Value → World → Prop),
 ∃ (m : List Value → World → Nat),
 I
 [Value.int IntKind.i64 0,
 Value.int IntKind.i64
 (IntKind.i64.wrap (0 + IntKind.i64.wrap ((↑s.size : Int) * IntKind.i64.wrap ((↑n : Int) - 1))))]
 w ∧
 ∀ (x x_1 : Int) (w' : World),
 I [Value.int IntKind.i64 x, Value.int IntKind.i64 x_1] w' →
 bsp (decide (x < (↑n : Int)))
 (nn true p fun (b o : Nat) =>
 (0 ≤ x ∧ x < (↑n : Int)) ∧
 ∃ (x_2 : ByteArray),
 w'.cell? (Addr.mk b (o + x.toNat) none) = some (Value.string x_2) ∧
 bsp (decide ((↑x_2.size : Int) > IntKind.i64.wrap (9223372036854775807 - x_1))) False
 (I
 [Value.int IntKind.i64 (IntKind.i64.wrap (x + 1)),
 Value.int IntKind.i64 (IntKind.i64.wrap (x_1 + (↑x_2.size : Int)))]
 w' ∧
 m
 [Value.int IntKind.i64 (IntKind.i64.wrap (x + 1)),
 Value.int IntKind.i64 (IntKind.i64.wrap (x_1 + (↑x_2.size : Int)))]
 w' <
 m [Value.int IntKind.i64 x, Value.int IntKind.i64 x_1] w'))
 (∀ (n_1 : Nat) (W : World),
 Loc w.heap.size [Blk.mk n_1 140 [Value.pointer none, Value.slice none 0 0] 2] w' W →
 CallsS Tryz.prog 86 #[Value.pointer (some (Addr.mk n_1 0 none)), Value.int IntKind.i64 x_1] W
 fun (e : Ending) (w' : World) =>
 e = Ending.returned (Value.tuple #[]) ∧
 KeptL [] W w' ∧
 nn true p fun (b o : Nat) =>
 ((0 : Int) ≤ 0 ∧ 0 < (↑n : Int)) ∧
 ∃ (x : ByteArray),
 w'.cell? (Addr.mk b o none) = some (Value.string x) ∧
 CallsS Tryz.prog 82 #[Value.pointer (some (Addr.mk n_1 0 none)), Value.string x] w'
 fun (e : Ending) (w'_1 : World) =>
 ∃ (x : Int),
 ∃ (x_2 : Value),
 e = Ending.returned (Value.tuple #[Value.int IntKind.i64 x, x_2]) ∧
 KeptL [] w' w'_1 ∧
 ((0 : Int) ≤ 1 ∧ 1 ≤ (↑n : Int)) ∧
 ∃ (I : List Value → World → Prop),
 ∃ (m : List Value → World → Nat),
 I [Value.int IntKind.i64 0] w'_1 ∧
 ∀ (x : Int) (w' : World),
 I [Value.int IntKind.i64 x] w' →
 bsp (decide (x < (↑(n - Int.toNat 1) : Int)))
 (nn true (slA p c 1 1) fun (b o : Nat) =>
 (0 ≤ x ∧ x < (↑(n - 1) : Int)) ∧
 ∃ (x_3 : ByteArray),
 w'.cell? (Addr.mk b (o + x.toNat) none) = some (Value.string x_3) ∧
 CallsS Tryz.prog 82 #[Value.pointer (some (Addr.mk n_1 0 none)), Value.string s] w'
 fun (e : Ending) (w'_2 : World) =>
 ∃ (x_4 : Int),
 ∃ (x_5 : Value),
 e = Ending.returned (Value.tuple #[Value.int IntKind.i64 x_4, x_5]) ∧
 KeptL [] w' w'_2 ∧
 CallsS Tryz.prog 82
 #[Value.pointer (some (Addr.mk n_1 0 none)), Value.string x_3] w'_2
 fun (e : Ending) (w'_3 : World) =>
 ∃ (x_6 : Int),
 ∃ (x_7 : Value),
 e = Ending.returned (Value.tuple #[Value.int IntKind.i64 x_6, x_7]) ∧
 KeptL [] w'_2 w'_3 ∧
 I [Value.int IntKind.i64 (IntKind.i64.wrap (x + 1))] w'_3 ∧
 m [Value.int IntKind.i64 (IntKind.i64.wrap (x + 1))] w'_3 <
 m [Value.int IntKind.i64 x] w')
 (CallsS Tryz.prog 84 #[Value.pointer (some (Addr.mk n_1 0 none))] w'
 fun (e : Ending) (w'_2 : World) =>
 ∃ (x : ByteArray),
 e = Ending.returned (Value.string x) ∧
 KeptL [] w' w'_2 ∧ R (Ending.returned (Value.string x)) w'_2))))
 (∃ (I : List Value → World → Prop),
 ∃ (m : List Value → World → Nat),
 I [Value.int IntKind.i64 0, Value.int IntKind.i64 0] w ∧
 ∀ (x x_1 : Int) (w' : World),
 I [Value.int IntKind.i64 x, Value.int IntKind.i64 x_1] w' →
 bsp (decide (x < (↑n : Int)))
 (nn true p fun (b o : Nat) =>
 (0 ≤ x ∧ x < (↑n : Int)) ∧
 ∃ (x_2 : ByteArray),
 w'.cell? (Addr.mk b (o + x.toNat) none) = some (Value.string x_2) ∧
 bsp (decide ((↑x_2.size : Int) > IntKind.i64.wrap (9223372036854775807 - x_1))) False
 (I
 [Value.int IntKind.i64 (IntKind.i64.wrap (x + 1)),
 Value.int IntKind.i64 (IntKind.i64.wrap (x_1 + (↑x_2.size : Int)))]
 w' ∧
 m
 [Value.int IntKind.i64 (IntKind.i64.wrap (x + 1)),
 Value.int IntKind.i64 (IntKind.i64.wrap (x_1 + (↑x_2.size : Int)))]
 w' <
 m [Value.int IntKind.i64 x, Value.int IntKind.i64 x_1] w'))
 (∀ (n_1 : Nat) (W : World),
 Loc w.heap.size [Blk.mk n_1 140 [Value.pointer none, Value.slice none 0 0] 2] w' W →
 CallsS Tryz.prog 86 #[Value.pointer (some (Addr.mk n_1 0 none)), Value.int IntKind.i64 x_1] W
 fun (e : Ending) (w' : World) =>
 e = Ending.returned (Value.tuple #[]) ∧
 KeptL [] W w' ∧
 nn true p fun (b o : Nat) =>
 ((0 : Int) ≤ 0 ∧ 0 < (↑n : Int)) ∧
 ∃ (x : ByteArray),
 w'.cell? (Addr.mk b o none) = some (Value.string x) ∧
 CallsS Tryz.prog 82 #[Value.pointer (some (Addr.mk n_1 0 none)), Value.string x] w'
 fun (e : Ending) (w'_1 : World) =>
 ∃ (x : Int),
 ∃ (x_2 : Value),
 e = Ending.returned (Value.tuple #[Value.int IntKind.i64 x, x_2]) ∧
 KeptL [] w' w'_1 ∧
 ((0 : Int) ≤ 1 ∧ 1 ≤ (↑n : Int)) ∧
 ∃ (I : List Value → World → Prop),
 ∃ (m : List Value → World → Nat),
 I [Value.int IntKind.i64 0] w'_1 ∧
 ∀ (x : Int) (w' : World),
 I [Value.int IntKind.i64 x] w' →
 bsp (decide (x < (↑(n - Int.toNat 1) : Int)))
 (nn true (slA p c 1 1) fun (b o : Nat) =>
 (0 ≤ x ∧ x < (↑(n - 1) : Int)) ∧
 ∃ (x_3 : ByteArray),
 w'.cell? (Addr.mk b (o + x.toNat) none) = some (Value.string x_3) ∧
 CallsS Tryz.prog 82 #[Value.pointer (some (Addr.mk n_1 0 none)), Value.string s] w'
 fun (e : Ending) (w'_2 : World) =>
 ∃ (x_4 : Int),
 ∃ (x_5 : Value),
 e = Ending.returned (Value.tuple #[Value.int IntKind.i64 x_4, x_5]) ∧
 KeptL [] w' w'_2 ∧
 CallsS Tryz.prog 82
 #[Value.pointer (some (Addr.mk n_1 0 none)), Value.string x_3] w'_2
 fun (e : Ending) (w'_3 : World) =>
 ∃ (x_6 : Int),
 ∃ (x_7 : Value),
 e = Ending.returned (Value.tuple #[Value.int IntKind.i64 x_6, x_7]) ∧
 KeptL [] w'_2 w'_3 ∧
 I [Value.int IntKind.i64 (IntKind.i64.wrap (x + 1))] w'_3 ∧
 m [Value.int IntKind.i64 (IntKind.i64.wrap (x + 1))] w'_3 <
 m [Value.int IntKind.i64 x] w')
 (CallsS Tryz.prog 84 #[Value.pointer (some (Addr.mk n_1 0 none))] w'
 fun (e : Ending) (w'_2 : World) =>
 ∃ (x : ByteArray),
 e = Ending.returned (Value.string x) ∧
 KeptL [] w' w'_2 ∧ R (Ending.returned (Value.string x)) w'_2)))))
theorem vc_join (p : Option Addr) (n : Nat) (c : Nat) (s : ByteArray) (w : World) (R : Ending → World → Prop) (h : VC_join p n c s w R) : Calls Tryz.prog 42 ([Value.slice
    p n c,
  Value.string s] : List Value).toArray w R := by
  have e : execR2 { P := Tryz.prog, loops := [(12, [(41, Ck.int IntKind.i64), (5, Ck.int IntKind.i64)]), (22, [(65, Ck.int IntKind.i64)])], pur := purM, tails := [], joins := [], boxes := [] } Tryz.f42.results.toList R (Tryz.f42.body.getD .skip) (initF [Value.slice
    p n c,
  Value.string
    s] (Tryz.f42.ntmps - ([Value.slice p n c,
  Value.string s] : List Value).length)) w = VC_join p n c s w R := by kernel_rfl
  have hb : Tryz.f42.body = some (Tryz.f42.body.getD .skip) := by kernel_rfl
  exact calls_of_exec2' (P := Tryz.prog) (fn := Tryz.f42) (c := Tryz.f42.body.getD .skip) (args := [Value.slice p n c,
  Value.string s]) (w := w) (R := R) purM_ok Tryz.func42 hb e h

end Go.Proofs.YtmlmdljnfokebaaGreatDoor
