/- The contracts of (*strings.Builder).copyCheck, WriteString (written since it was made, never read) and String. Texts of at most 2^47 bytes. -/
import Derived.Test.YtmlmdljnfokebaaGreatDoorZ03
import Derived.Test.YtmlmdljnfokebaaGreatDoorZ05
import Derived.Shelf.Strings.BuilderX
import Derived.Lib.Builder
import Derived.Lib.AppendStr
import Derived.Lib.UnsafeStr
import Derived.WalkKit
import Derived.Laws.Externs
import Derived.Shelf.RegionOpenPlain
import Derived.Lib.OthersKept
import Derived.Lib.FrozenHead
import Derived.Test.YtmlmdljnfokebaaGreatDoorProg
import Derived.Test.YtmlmdljnfokebaaGreatDoorZ02
import Derived.Test.YtmlmdljnfokebaaGreatDoorZ04
import Derived.KernelRfl
import Derived.Laws.Runes
import Derived.Handy
import Derived.Scope
import Derived.Deep.QuietTactic
import Derived.Deep.RegionWith
import Derived.Maps.Keyed
import Derived.DeepKeys
namespace Go.Proofs.YtmlmdljnfokebaaGreatDoor
open Go.RowKit

set_option maxHeartbeats 1000000 in
set_option maxRecDepth 100000 in
theorem bcheck_used (b : Nat) (w : World) (h0 : w.cell? ⟨b, 0, none⟩ = some (.pointer (some ⟨b, 0, none⟩))) :
    Calls Tryz.prog 124 #[.pointer (some ⟨b, 0, none⟩)] w fun e w' => e = .returned (.tuple #[]) ∧ w' = w := by
  have hX : (Tryz.prog.info? 140).map (·.size) = some 2 := by kernel_rfl
  obtain ⟨j, hj, _⟩ := Option.map_eq_some_iff.1 hX
  go_enter Tryz.func124, Tryz.ntmps124
  go_wp2
  rw [Lib.run_neq_ptr_same w _ Tryz.underlying137 hj]
  go_wp2
  go_end0
  exact ⟨rfl, rfl⟩
set_option maxHeartbeats 1000000 in
set_option maxRecDepth 100000 in
theorem bcheck_fresh (b : Nat) (w : World) (h0 : w.cell? ⟨b, 0, none⟩ = some (.pointer none)) (hsh : w.shape? b = some (140, 2)) (hfz : w.frozen? ⟨b, 0, none⟩ = false) :
    Calls Tryz.prog 124 #[.pointer (some ⟨b, 0, none⟩)] w fun e w' => e = .returned (.tuple #[]) ∧ w' = w.setCell ⟨b, 0, none⟩ (.pointer (some ⟨b, 0, none⟩)) := by
  have hX : (Tryz.prog.info? 140).map (·.size) = some 2 := by kernel_rfl
  have hY : liesAt Tryz.prog Tryz.prog.depth 140 (2 / Tryz.prog.cellsOf 140) 0 140 1 = true := by kernel_rfl
  obtain ⟨j, hj, hjs⟩ := Option.map_eq_some_iff.1 hX
  go_enter Tryz.func124, Tryz.ntmps124
  go_wp2
  rw [Lib.run_to_unsafe w ⟨b, 0, none⟩ Tryz.underlying137 Tryz.underlying185 hj (by rw [hjs]; decide) hsh (Nat.zero_lt_succ 1)]
  simp only [Result.andThen]
  rw [Oper.upon_value]
  go_wp2
  rw [run_callFunc_extern Tryz.func151 (by kernel_rfl) (by kernel_rfl) (by kernel_rfl) (e := Extern.AbiNoEscape.same) (by kernel_rfl)]
  rw [Lib.run_noEscape]
  simp only [Result.andThen]
  rw [Oper.upon_value]
  go_wp2
  rw [Lib.run_from_unsafe w ⟨b, 0, none⟩ Tryz.underlying185 Tryz.underlying137 hj hsh hY]
  simp only [Result.andThen]
  rw [Oper.upon_value]
  go_wp2
  go_end0
  exact ⟨rfl, rfl⟩
theorem bcheck_any (B b : Nat) (bs : List Value) (w : World) (h : Lib.IsBuilder 140 5 B b bs w) :
    Calls Tryz.prog 124 #[.pointer (some ⟨b, 0, none⟩)] w fun e w' => e = .returned (.tuple #[]) ∧ Lib.BuilderAt 140 5 B b (.pointer (some ⟨b, 0, none⟩)) bs w' ∧ Below B w w' ∧ Lib.OthersKept 5 (some b) w w' := by
  rcases h with h | h
  · refine (bcheck_fresh b w h.cell0 h.shape h.frozen0).mono ?_
    rintro e w' ⟨rfl, rfl⟩
    exact ⟨rfl, h.used _, (Below.refl B w).setCell (p := ⟨b, 0, none⟩) h.1 _, (Lib.OthersKept.refl _ _ w).setCell ⟨b, 0, none⟩ rfl _⟩
  · refine (bcheck_used b w h.cell0).mono ?_
    rintro e w' ⟨rfl, rfl⟩
    exact ⟨rfl, h, Below.refl B _, Lib.OthersKept.refl _ _ _⟩

set_option maxHeartbeats 1000000 in
set_option maxRecDepth 100000 in
theorem bwrite_any (B b : Nat) (bs : List Value) (s : ByteArray) (w : World) (h : Lib.IsBuilder 140 5 B b bs w) (hlen : bs.length + s.size ≤ 140737488355328) (hBw : B ≤ w.heap.size) :
    Calls Tryz.prog 82 #[.pointer (some ⟨b, 0, none⟩), .string s] w fun e w' => e = .returned (.tuple #[.int .i64 s.size, .nilIface]) ∧ Lib.BuilderAt 140 5 B b (.pointer (some ⟨b, 0, none⟩)) (bs ++ Lib.strCells s) w' ∧ Below B w w' ∧ Lib.OthersKept 5 (some b) w w' := by
  have hI : (Tryz.prog.info? 5).map (fun i => (i.zero, i.size, i.bytes)) = some (some (.int .u8 0), 1, 1) := by kernel_rfl
  obtain ⟨i0, hi, hz0, hz1, hz2⟩ := info_parts hI
  go_enter Tryz.func82, Tryz.ntmps82
  go_wp2_with (go_at_call 124; refine (bcheck_any B b bs _ h).mono ?_)
  rintro e w1 ⟨rfl, h1, hb1, hk1⟩
  obtain ⟨hB, v, hbk, hown, hne⟩ := h1
  have c0 : w1.cell? ⟨b, 0, none⟩ = some (.pointer (some ⟨b, 0, none⟩)) := by rw [Lib.cell_of_heap hbk]; rfl
  have c1 : w1.cell? ⟨b, 1, none⟩ = some v := by rw [Lib.cell_of_heap hbk]; rfl
  go_wp2_with (at_builtin; refine Lib.wpList_append_own_string _ rfl _ _ 138 9 rfl B 5 i0 Tryz.underlying138 Tryz.underlying9 hi hz0 hz1 hz2 _ _ _ rfl hown s rfl ?c3 ?c4 ?c5 ?_)
  case c3 => unfold maxLen; omega
  case c4 => omega
  case c5 => have := hb1.size; omega
  intro v' w2 hown' hgrow _
  have hlt : b < w1.heap.size := by
    rcases Nat.lt_or_ge b w1.heap.size with h' | h'
    · exact h'
    · simp [Array.getElem?_eq_none h'] at hbk
  have hb2 : w2.heap[b]? = some (.cells #[.pointer (some ⟨b, 0, none⟩), v] 140 (0, 0)) := by
    rw [hgrow.block b hlt (fun e => hne e.symm)]
    exact hbk
  have d0 : w2.cell? ⟨b, 0, none⟩ = some (.pointer (some ⟨b, 0, none⟩)) := by rw [Lib.cell_of_heap hb2]; rfl
  have d1 : w2.cell? ⟨b, 1, none⟩ = some v := by rw [Lib.cell_of_heap hb2]; rfl
  have f1 : w2.frozen? ⟨b, 1, none⟩ = false := Lib.frozen_of_heap hb2 1
  obtain ⟨ao, n', cap, rfl⟩ : ∃ ao n' cap, v' = .slice ao n' cap := by
    rcases hown'.2 with ⟨hv, _⟩ | ⟨g, cap, cur, hv, _⟩
    · exact ⟨_, _, _, hv⟩
    · exact ⟨_, _, _, hv⟩
  go_wp2
  go_ret2
  refine ⟨rfl, ?_, ?_, (hk1.grown hgrow (Lib.ownsRowF_kind (World.ownsRowF_of hown))).setCell ⟨b, 1, none⟩ rfl _⟩
  · exact Lib.BuilderAt.put (T := 140) (e := 5) hB hb2 (bs' := bs ++ Lib.strCells s) (by simpa [Lib.strCells_length] using hown') (by decide)
  · exact (hb1.grown hgrow (by have := hb1.size; omega) (fun k hk => (hown.lt k hk).1)).setCell (p := ⟨b, 1, none⟩) hB _

/-! ### In the words of this proof -/
/-- A builder that holds a text (from block b on nothing is older). -/
def Bld (b : Nat) (s : ByteArray) (w : World) : Prop := Lib.IsBuilder 140 5 b b (Lib.strCells s) w
theorem Bld.k0 {b : Nat} {s : ByteArray} {w w' : World} (h : Bld b s w) (hk : K0 w w') : Bld b s w' := by
  rcases h with ⟨h1, v, h2, h3, h4⟩ | ⟨h1, v, h2, h3, h4⟩
  · exact .inl ⟨h1, v, hk.blk h2 (fun h => h), owns_kp h3 hk (fun _ _ h => h), h4⟩
  · exact .inr ⟨h1, v, hk.blk h2 (fun h => h), owns_kp h3 hk (fun _ _ h => h), h4⟩
theorem Bld.lt {b : Nat} {s : ByteArray} {w : World} (h : Bld b s w) : b < w.heap.size := by
  rcases h with h | h <;> exact h.lt
theorem Bld.new {b : Nat} {w : World} (h : w.heap[b]? = some (.cells #[.pointer none, .slice none 0 0] 140 (0, 0))) : Bld b ⟨#[]⟩ w :=
  .inl ⟨Nat.le_refl _, .slice none 0 0, h, World.ownsRow_nil _ _ _ _, by simp [Value.ownBlock]⟩
theorem strCells_app (a b : ByteArray) : Lib.strCells (a ++ b) = Lib.strCells a ++ Lib.strCells b := by
  unfold Lib.strCells
  rw [ByteArray.toList_data_append, List.map_append]
theorem Bld.write {b : Nat} {t : ByteArray} {w : World} (h : Bld b t w) (s : ByteArray) (hl : t.size + s.size ≤ 140737488355328) :
    Calls Tryz.prog 82 #[.pointer (some ⟨b, 0, none⟩), .string s] w fun e w' => e = .returned (.tuple #[.int .i64 s.size, .nilIface]) ∧ Bld b (t ++ s) w' ∧ Kp (fun k => b ≤ k) w w' ∧
      ∀ k c ty f, w.heap[k]? = some (.cells c ty f) → k ≠ b → ty ≠ 5 → w'.heap[k]? = w.heap[k]? :=
  (bwrite_any b b _ s w h (by rw [Lib.strCells_length]; exact hl) (Nat.le_of_lt h.lt)).mono fun e w' ⟨he, h1, h2, h3⟩ => by
    rw [← strCells_app] at h1
    refine ⟨he, .inr h1, ⟨h2.os, h2.tape, h2.output, h2.size, fun k _ hb => h2.block k (by omega)⟩, fun k c ty f hk hb ht => ?_⟩
    rw [hk]
    exact h3 k _ hk (fun e => hb (Option.some.inj e)) (fun c' f' e => ht (by cases e; rfl))
theorem Bld.text {b : Nat} {s : ByteArray} {w : World} (h : Bld b s w) :
    Calls Tryz.prog 84 #[.pointer (some ⟨b, 0, none⟩)] w fun e w' => e = .returned (.string s) ∧ Kp (fun k => b ≤ k) w w' :=
  (Tryz.Builder_String_any b b s.data.toList w h (Nat.le_of_lt h.lt)).mono fun e w' ⟨he, h2⟩ => ⟨he, ⟨h2.os, h2.tape, h2.output, h2.size, fun k _ hb => h2.block k (by omega)⟩⟩
theorem Bld.textT {b : Nat} {s : ByteArray} {w : World} (h : Bld b s w) :
    Calls Tryz.prog 84 #[.pointer (some ⟨b, 0, none⟩)] w fun e w' => e = .returned (.string s) ∧ Kp (fun k => b ≤ k) w w' ∧ ∀ k c ty f, w.heap[k]? = some (.cells c ty f) → k ≠ b → ty ≠ 5 → w'.heap[k]? = w.heap[k]? := by
  have hF : Lib.IsBuilderF 140 5 b b (Lib.byteCells s.data.toList) w := by
    rcases h with ⟨h1, v, h2, h3, h4⟩ | ⟨h1, v, h2, h3, h4⟩
    · exact .inl ⟨h1, v, h2, World.ownsRowF_of h3, h4⟩
    · exact .inr ⟨h1, v, h2, World.ownsRowF_of h3, h4⟩
  refine (Tryz.Builder_String_any_k b b s.data.toList w hF (Nat.le_of_lt h.lt)).mono fun e w' ⟨he, _, h2, h3⟩ => ⟨he, ⟨h2.os, h2.tape, h2.output, h2.size, fun k _ hb => h2.block k (by omega)⟩, fun k c ty f hk hb ht => ?_⟩
  rw [hk]
  exact h3 k _ hk (fun e => hb (Option.some.inj e)) (fun c' f' e => ht (by cases e; rfl))

end Go.Proofs.YtmlmdljnfokebaaGreatDoor

/- The formulas of functions by the symbolic evaluator, and that each gives the call's contract. Written by a program (gen.py). No condition. -/
namespace Go.Proofs.YtmlmdljnfokebaaGreatDoor
set_option maxRecDepth 100000
set_option linter.unusedVariables false

def VC_crune (s : ByteArray) (x : Int) (w : World) (R : Ending → World → Prop) : Prop :=
 CallsS Tryz.prog 160 #[Value.string s, Value.int IntKind.i32 x] w fun (e : Ending) (w' : World) =>
 ∃ (x : Int),
 e = Ending.returned (Value.int IntKind.i64 x) ∧ KeptL [] w w' ∧ R (Ending.returned (Value.bool (decide (x ≥ 0)))) w'
theorem vc_crune (s : ByteArray) (x : Int) (w : World) (R : Ending → World → Prop) (h : VC_crune s x w R) : Calls Tryz.prog 147 ([Value.string
    s,
  Value.int IntKind.i32 x] : List Value).toArray w R := by
  have e : execR2 { P := Tryz.prog, loops := [], pur := purM, tails := [], joins := [], boxes := [] } Tryz.f147.results.toList R (Tryz.f147.body.getD .skip) (initF [Value.string
    s,
  Value.int IntKind.i32
    x] (Tryz.f147.ntmps - ([Value.string s,
  Value.int IntKind.i32 x] : List Value).length)) w = VC_crune s x w R := by kernel_rfl
  have hb : Tryz.f147.body = some (Tryz.f147.body.getD .skip) := by kernel_rfl
  exact calls_of_exec2' (P := Tryz.prog) (fn := Tryz.f147) (c := Tryz.f147.body.getD .skip) (args := [Value.string s,
  Value.int IntKind.i32 x]) (w := w) (R := R) purM_ok Tryz.func147 hb e h

def VC_irune (x : Int) (w : World) (R : Ending → World → Prop) : Prop :=
 bsp (decide (0 ≤ x) && decide (x < 128))
 (CallsS Tryz.prog 105 #[Value.string (ByteArray.mk #[45, 95, 46, 43]), Value.int IntKind.u8 (IntKind.u8.wrap x)] w
 fun (e : Ending) (w' : World) =>
 ∃ (x : Int),
 e = Ending.returned (Value.int IntKind.i64 x) ∧ KeptL [] w w' ∧ R (Ending.returned (Value.int IntKind.i64 x)) w')
 (bsp (x == 65533)
 (∃ (n : Nat),
 ∃ (w1 : World),
 RngP Tryz.prog 9 (Value.string (ByteArray.mk #[45, 95, 46, 43])) n w w1 ∧
 KeptL [] w w1 ∧
 ∃ (I : List Value → World → Prop), ∃ (m : List Value → World → Nat), I [] w1 ∧ ∀ (w' : World), I [] w' → False)
 (CallsS Tryz.prog 168 #[Value.int IntKind.i32 x] w fun (e : Ending) (w' : World) =>
 ∃ (x : Bool),
 e = Ending.returned (Value.bool x) ∧
 KeptL [] w w' ∧ bsp (!x) (R (Ending.returned (Value.int IntKind.i64 (-1))) w') False))
theorem vc_irune (x : Int) (w : World) (R : Ending → World → Prop) (h : VC_irune x w R) : Calls Tryz.prog 160 ([Value.string
    { data := #[45, 95, 46, 43] },
  Value.int IntKind.i32 x] : List Value).toArray w R := by
  have e : execR2 { P := Tryz.prog, loops := [(38, [])], pur := purM, tails := [], joins := [], boxes := [], rngs := [(175, 9)] } Tryz.f160.results.toList R (Tryz.f160.body.getD .skip) (initF [Value.string
    { data := #[45, 95, 46, 43] },
  Value.int IntKind.i32
    x] (Tryz.f160.ntmps - ([Value.string { data := #[45, 95, 46, 43] },
  Value.int IntKind.i32 x] : List Value).length)) w = VC_irune x w R := by kernel_rfl
  have hb : Tryz.f160.body = some (Tryz.f160.body.getD .skip) := by kernel_rfl
  exact calls_of_exec2' (P := Tryz.prog) (fn := Tryz.f160) (c := Tryz.f160.body.getD .skip) (args := [Value.string
    { data := #[45, 95, 46, 43] },
  Value.int IntKind.i32 x]) (w := w) (R := R) purM_ok Tryz.func160 hb e h

def VC_muser (s : ByteArray) (w : World) (R : Ending → World → Prop) : Prop :=
 bsp (decide ((↑s.size : Int) > 40)) (R (Ending.returned (Value.bool false)) w)
 (∃ (I : List Value → World → Prop),
 ∃ (m : List Value → World → Nat),
 I [Value.int IntKind.i64 0] w ∧
 ∀ (x : Int) (w' : World),
 I [Value.int IntKind.i64 x] w' →
 bsp (decide (x < (↑s.size : Int)))
 ((0 ≤ x ∧ x < (↑s.size : Int)) ∧
 gimp (!lowerB (at8 s x.toNat)) (0 ≤ x ∧ x < (↑s.size : Int)) ∧
 gimp (!lowerB (at8 s x.toNat) && !digitB (at8 s x.toNat)) (0 ≤ x ∧ x < (↑s.size : Int)) ∧
 bsp (!lowerB (at8 s x.toNat) && !digitB (at8 s x.toNat))
 (CallsS Tryz.prog 147
 #[Value.string (ByteArray.mk #[45, 95, 46, 43]), Value.int IntKind.i32 (IntKind.i32.wrap (at8 s x.toNat))]
 w' fun (e : Ending) (w'_1 : World) =>
 ∃ (x_1 : Bool),
 e = Ending.returned (Value.bool x_1) ∧
 KeptL [] w' w'_1 ∧
 bsp (true && !x_1) (R (Ending.returned (Value.bool false)) w'_1)
 (I [Value.int IntKind.i64 (IntKind.i64.wrap (x + 1))] w'_1 ∧
 m [Value.int IntKind.i64 (IntKind.i64.wrap (x + 1))] w'_1 < m [Value.int IntKind.i64 x] w'))
 (KeptL [] w' w' ∧
 I [Value.int IntKind.i64 (IntKind.i64.wrap (x + 1))] w' ∧
 m [Value.int IntKind.i64 (IntKind.i64.wrap (x + 1))] w' < m [Value.int IntKind.i64 x] w'))
 (R (Ending.returned (Value.bool true)) w'))
theorem vc_muser (s : ByteArray) (w : World) (R : Ending → World → Prop) (h : VC_muser s w R) : Calls Tryz.prog 114 ([Value.string
    s] : List Value).toArray w R := by
  have e : execR2 { P := Tryz.prog, loops := [(4, [(9, Ck.int IntKind.i64)])], pur := purM, tails := [], joins := [], boxes := [] } Tryz.f114.results.toList R (Tryz.f114.body.getD .skip) (initF [Value.string
    s] (Tryz.f114.ntmps - ([Value.string s] : List Value).length)) w = VC_muser s w R := by kernel_rfl
  have hb : Tryz.f114.body = some (Tryz.f114.body.getD .skip) := by kernel_rfl
  exact calls_of_exec2' (P := Tryz.prog) (fn := Tryz.f114) (c := Tryz.f114.body.getD .skip) (args := [Value.string
    s]) (w := w) (R := R) purM_ok Tryz.func114 hb e h

def VC_mparse (s : ByteArray) (w : World) (R : Ending → World → Prop) : Prop :=
 ∀ (n : Nat) (W : World),
 Loc w.heap.size [Blk.mk n 23 [Value.string (ByteArray.mk #[]), Value.string (ByteArray.mk #[])] 2] w W →
 CallsS Tryz.prog 112 #[Value.string s, Value.string (ByteArray.mk #[64])] W fun (e : Ending) (w' : World) =>
 ∃ (x : Int),
 e = Ending.returned (Value.int IntKind.i64 x) ∧
 KeptL [n] W w' ∧
 bsp (x != 1)
 (∀ (W : World),
 Loc w.heap.size [Blk.mk n 23 [Value.string (ByteArray.mk #[]), Value.string (ByteArray.mk #[])] (wrM 0)] w' W →
 R
 (Ending.returned
 (Value.tuple
 #[Value.agg #[Value.string (ByteArray.mk #[]), Value.string (ByteArray.mk #[])], Value.int IntKind.i64 3]))
 W)
 (CallsS Tryz.prog 113 #[Value.string s, Value.string (ByteArray.mk #[64])] w' fun (e : Ending) (w'_1 : World) =>
 ∃ (x : ByteArray),
 ∃ (x_1 : ByteArray),
 ∃ (x_2 : Bool),
 e = Ending.returned (Value.tuple #[Value.string x, Value.string x_1, Value.bool x_2]) ∧
 KeptL [n] w' w'_1 ∧
 CallsS Tryz.prog 114 #[Value.string x] w'_1 fun (e : Ending) (w' : World) =>
 ∃ (x_3 : Bool),
 e = Ending.returned (Value.bool x_3) ∧
 KeptL [n] w'_1 w' ∧
 bsp (!x_3)
 (∀ (W : World),
 Loc w.heap.size
 [Blk.mk n 23 [Value.string (ByteArray.mk #[]), Value.string (ByteArray.mk #[])] (wrM 0)] w' W →
 R
 (Ending.returned
 (Value.tuple
 #[Value.agg #[Value.string (ByteArray.mk #[]), Value.string (ByteArray.mk #[])],
 Value.int IntKind.i64 12]))
 W)
 (CallsS Tryz.prog 49 #[Value.string x_1] w' fun (e : Ending) (w'_2 : World) =>
 ∃ (x_4 : Int),
 ∃ (x_5 : Int),
 e = Ending.returned (Value.tuple #[Value.int IntKind.i64 x_4, Value.int IntKind.i64 x_5]) ∧
 KeptL [n] w' w'_2 ∧
 bsp (x_5 != 0)
 (∀ (W : World),
 Loc w.heap.size
 [Blk.mk n 23 [Value.string (ByteArray.mk #[]), Value.string (ByteArray.mk #[])] (wrM 0)] w'_2
 W →
 R
 (Ending.returned
 (Value.tuple
 #[Value.agg #[Value.string (ByteArray.mk #[]), Value.string (ByteArray.mk #[])],
 Value.int IntKind.i64 x_5]))
 W)
 (∀ (W : World),
 Loc w.heap.size [Blk.mk n 23 [Value.string x, Value.string x_1] (wrM 0)] w'_2 W →
 R
 (Ending.returned
 (Value.tuple #[Value.agg #[Value.string x, Value.string x_1], Value.int IntKind.i64 0]))
 W)))
theorem vc_mparse (s : ByteArray) (w : World) (R : Ending → World → Prop) (h : VC_mparse s w R) : Calls Tryz.prog 67 ([Value.string
    s] : List Value).toArray w R := by
  have e : execR2 { P := Tryz.prog, loops := [], pur := purM, tails := [], joins := [], boxes := [] } Tryz.f67.results.toList R (Tryz.f67.body.getD .skip) (initF [Value.string
    s] (Tryz.f67.ntmps - ([Value.string s] : List Value).length)) w = VC_mparse s w R := by kernel_rfl
  have hb : Tryz.f67.body = some (Tryz.f67.body.getD .skip) := by kernel_rfl
  exact calls_of_exec2' (P := Tryz.prog) (fn := Tryz.f67) (c := Tryz.f67.body.getD .skip) (args := [Value.string
    s]) (w := w) (R := R) purM_ok Tryz.func67 hb e h

def VC_mstr (a : ByteArray) (b : ByteArray) (w : World) (R : Ending → World → Prop) : Prop :=
 ∀ (n : Nat),
 (9223372036854775807 - (↑(a.size + (ByteArray.mk #[64]).size) : Int)).NonNeg ∧
 (9223372036854775807 - (↑((a ++ ByteArray.mk #[64]).size + b.size) : Int)).NonNeg ∧
 ∀ (W : World),
 Loc w.heap.size [Blk.mk n 23 [Value.string a, Value.string b] 2] w W →
 R (Ending.returned (Value.string (a ++ ByteArray.mk #[64] ++ b))) W
theorem vc_mstr (a : ByteArray) (b : ByteArray) (w : World) (R : Ending → World → Prop) (h : VC_mstr a b w R) : Calls Tryz.prog 40 ([Value.agg
    #[Value.string a, Value.string b]] : List Value).toArray w R := by
  have e : execR2 { P := Tryz.prog, loops := [], pur := purM, tails := [], joins := [], boxes := [] } Tryz.f40.results.toList R (Tryz.f40.body.getD .skip) (initF [Value.agg
    #[Value.string a,
      Value.string
        b]] (Tryz.f40.ntmps - ([Value.agg
    #[Value.string a, Value.string b]] : List Value).length)) w = VC_mstr a b w R := by kernel_rfl
  have hb : Tryz.f40.body = some (Tryz.f40.body.getD .skip) := by kernel_rfl
  exact calls_of_exec2' (P := Tryz.prog) (fn := Tryz.f40) (c := Tryz.f40.body.getD .skip) (args := [Value.agg
    #[Value.string a, Value.string b]]) (w := w) (R := R) purM_ok Tryz.func40 hb e h

def VC_menv (fu : ByteArray) (fs : ByteArray) (tu : ByteArray) (ts : ByteArray) (n : Int) (d : Int) (sj : ByteArray) (hp : Option Addr) (hn : Nat) (hc : Nat) (bd : ByteArray) (w : World) (R : Ending → World → Prop) : Prop :=
 ∀ (n_1 : Nat) (W : World),
 Loc w.heap.size
 [Blk.mk n_1 26
 [Value.string fu, Value.string fs, Value.string tu, Value.string ts, Value.int IntKind.i64 n,
 Value.int IntKind.i64 d, Value.string sj, Value.slice hp hn hc, Value.string bd]
 2]
 w W →
 CallsS Tryz.prog 114 #[Value.string fu] W fun (e : Ending) (w' : World) =>
 ∃ (x : Bool),
 e = Ending.returned (Value.bool x) ∧
 KeptL [n_1] W w' ∧
 bsp (!x) (R (Ending.returned (Value.int IntKind.i64 12)) w')
 (CallsS Tryz.prog 49 #[Value.string fs] w' fun (e : Ending) (w'_1 : World) =>
 ∃ (x : Int),
 ∃ (x_1 : Int),
 e = Ending.returned (Value.tuple #[Value.int IntKind.i64 x, Value.int IntKind.i64 x_1]) ∧
 KeptL [n_1] w' w'_1 ∧
 bsp (x_1 != 0) (R (Ending.returned (Value.int IntKind.i64 x_1)) w'_1)
 (CallsS Tryz.prog 114 #[Value.string tu] w'_1 fun (e : Ending) (w' : World) =>
 ∃ (x : Bool),
 e = Ending.returned (Value.bool x) ∧
 KeptL [n_1] w'_1 w' ∧
 ∃ (x_2 : ByteArray),
 gimp (!!x) (w'.cell? (Addr.mk n_1 (0 + 2) none) = some (Value.string x_2)) ∧
 bsp (!x || x_2.toList == []) (R (Ending.returned (Value.int IntKind.i64 12)) w')
 (CallsS Tryz.prog 49 #[Value.string ts] w' fun (e : Ending) (w'_2 : World) =>
 ∃ (x : Int),
 ∃ (x_3 : Int),
 e = Ending.returned (Value.tuple #[Value.int IntKind.i64 x, Value.int IntKind.i64 x_3]) ∧
 KeptL [n_1] w' w'_2 ∧
 bsp (x_3 != 0) (R (Ending.returned (Value.int IntKind.i64 x_3)) w'_2)
 (∃ (x : Int),
 gimp (!decide (n < 0))
 (w'_2.cell? (Addr.mk n_1 (0 + 4) none) = some (Value.int IntKind.i64 x)) ∧
 bsp (decide (n < 0) || decide (x > 2147483647))
 (R (Ending.returned (Value.int IntKind.i64 2)) w'_2)
 (bsp (!minB d) (R (Ending.returned (Value.int IntKind.i64 13)) w'_2)
 (R (Ending.returned (Value.int IntKind.i64 0)) w'_2))))))
theorem vc_menv (fu : ByteArray) (fs : ByteArray) (tu : ByteArray) (ts : ByteArray) (n : Int) (d : Int) (sj : ByteArray) (hp : Option Addr) (hn : Nat) (hc : Nat) (bd : ByteArray) (w : World) (R : Ending → World → Prop) (h : VC_menv fu fs tu ts n d sj hp hn hc bd w R) : Calls Tryz.prog 77 ([Value.agg
    #[Value.string fu, Value.string fs, Value.string tu, Value.string ts, Value.int IntKind.i64 n,
      Value.int IntKind.i64 d, Value.string sj, Value.slice hp hn hc, Value.string bd]] : List Value).toArray w R := by
  have e : execR2 { P := Tryz.prog, loops := [], pur := purM, tails := [], joins := [], boxes := [] } Tryz.f77.results.toList R (Tryz.f77.body.getD .skip) (initF [Value.agg
    #[Value.string fu, Value.string fs, Value.string tu, Value.string ts, Value.int IntKind.i64 n,
      Value.int IntKind.i64 d, Value.string sj, Value.slice hp hn hc,
      Value.string
        bd]] (Tryz.f77.ntmps - ([Value.agg
    #[Value.string fu, Value.string fs, Value.string tu, Value.string ts, Value.int IntKind.i64 n,
      Value.int IntKind.i64 d, Value.string sj, Value.slice hp hn hc,
      Value.string bd]] : List Value).length)) w = VC_menv fu fs tu ts n d sj hp hn hc bd w R := by kernel_rfl
  have hb : Tryz.f77.body = some (Tryz.f77.body.getD .skip) := by kernel_rfl
  exact calls_of_exec2' (P := Tryz.prog) (fn := Tryz.f77) (c := Tryz.f77.body.getD .skip) (args := [Value.agg
    #[Value.string fu, Value.string fs, Value.string tu, Value.string ts, Value.int IntKind.i64 n,
      Value.int IntKind.i64 d, Value.string sj, Value.slice hp hn hc,
      Value.string bd]]) (w := w) (R := R) purM_ok Tryz.func77 hb e h

def VC_mcheck (fu : ByteArray) (fs : ByteArray) (tu : ByteArray) (ts : ByteArray) (n : Int) (d : Int) (sj : ByteArray) (hp : Option Addr) (hn : Nat) (hc : Nat) (bd : ByteArray) (w : World) (R : Ending → World → Prop) : Prop :=
 ∀ (n_1 : Nat) (W : World),
 Loc w.heap.size
 [Blk.mk n_1 26
 [Value.string fu, Value.string fs, Value.string tu, Value.string ts, Value.int IntKind.i64 n,
 Value.int IntKind.i64 d, Value.string sj, Value.slice hp hn hc, Value.string bd]
 2]
 w W →
 CallsS Tryz.prog 77
 #[Value.agg
 #[Value.string fu, Value.string fs, Value.string tu, Value.string ts, Value.int IntKind.i64 n,
 Value.int IntKind.i64 d, Value.string sj, Value.slice hp hn hc, Value.string bd]]
 W fun (e : Ending) (w' : World) =>
 ∃ (x : Int),
 e = Ending.returned (Value.int IntKind.i64 x) ∧
 KeptL [n_1] W w' ∧
 bsp (x != 0) (R (Ending.returned (Value.int IntKind.i64 x)) w')
 (bsp (decide ((↑sj.size : Int) > 200)) (R (Ending.returned (Value.int IntKind.i64 5)) w')
 (∃ (I : List Value → World → Prop),
 ∃ (m : List Value → World → Nat),
 I [Value.int IntKind.i64 0] w' ∧
 ∀ (x : Int) (w' : World),
 I [Value.int IntKind.i64 x] w' →
 Loc w.heap.size
 [Blk.mk n_1 26
 [Value.string fu, Value.string fs, Value.string tu, Value.string ts, Value.int IntKind.i64 n,
 Value.int IntKind.i64 d, Value.string sj, Value.slice hp hn hc, Value.string bd]
 0]
 w' w' →
 bsp (decide (x < (↑sj.size : Int)))
 ((0 ≤ x ∧ x < (↑sj.size : Int)) ∧
 bsp (!visB (at8 sj x.toNat) && at8 sj x.toNat != 32) (R (Ending.returned (Value.int IntKind.i64 6)) w')
 (I [Value.int IntKind.i64 (IntKind.i64.wrap (x + 1))] w' ∧
 m [Value.int IntKind.i64 (IntKind.i64.wrap (x + 1))] w' < m [Value.int IntKind.i64 x] w'))
 (∀ (W : World),
 Loc w.heap.size
 [Blk.mk n_1 26
 [Value.string fu, Value.string fs, Value.string tu, Value.string ts, Value.int IntKind.i64 n,
 Value.int IntKind.i64 d, Value.string sj, Value.slice hp hn hc, Value.string bd]
 0]
 w' W →
 ∃ (S : World → Prop),
 S W ∧
 ∃ (x : ByteArray),
 (∀ (w' : World), S w' → w'.cell? (Addr.mk n_1 (0 + 6) none) = some (Value.string x)) ∧
 ∃ (x_1 : ByteArray),
 (∀ (w' : World), S w' → w'.cell? (Addr.mk n_1 (0 + 6) none) = some (Value.string x_1)) ∧
 CallsS Tryz.prog 79 #[Value.string x] W fun (e : Ending) (w' : World) =>
 ∃ (x : ByteArray),
 e = Ending.returned (Value.string x) ∧
 S w' ∧
 KeptL [n_1] W w' ∧
 bsp (!x.toList == x_1.toList) (R (Ending.returned (Value.int IntKind.i64 3)) w')
 (bsp (decide ((↑hn : Int) > 16)) (R (Ending.returned (Value.int IntKind.i64 9)) w')
 (∃ (I : List Value → World → Prop),
 ∃ (m : List Value → World → Nat),
 I [Value.int IntKind.i64 0] w' ∧
 ∀ (x : Int) (w' : World),
 I [Value.int IntKind.i64 x] w' →
 Loc w.heap.size
 [Blk.mk n_1 26
 [Value.string fu, Value.string fs, Value.string tu, Value.string ts,
 Value.int IntKind.i64 n, Value.int IntKind.i64 d, Value.string sj,
 Value.slice hp hn hc, Value.string bd]
 0]
 w' w' →
 bsp (decide (x < (↑hn : Int)))
 (nn true hp fun (b o : Nat) =>
 (0 ≤ x ∧ x < (↑hn : Int)) ∧
 ∃ (x_2 : ByteArray),
 w'.cell? (Addr.mk b (o + x.toNat) none) = some (Value.string x_2) ∧
 CallsS Tryz.prog 49 #[Value.string x_2] w' fun (e : Ending) (w'_1 : World) =>
 ∃ (x_3 : Int),
 ∃ (x_4 : Int),
 e =
 Ending.returned
 (Value.tuple #[Value.int IntKind.i64 x_3, Value.int IntKind.i64 x_4]) ∧
 KeptL [n_1] w' w'_1 ∧
 bsp (x_4 != 0) (R (Ending.returned (Value.int IntKind.i64 x_4)) w'_1)
 ((0 ≤ x ∧ x ≤ (↑hc : Int)) ∧
 CallsS Tryz.prog 80 #[Value.slice hp x.toNat hc, Value.string x_2] w'_1
 fun (e : Ending) (w'_2 : World) =>
 ∃ (x_5 : Bool),
 e = Ending.returned (Value.bool x_5) ∧
 KeptL [n_1] w'_1 w'_2 ∧
 bsp x_5 (R (Ending.returned (Value.int IntKind.i64 24)) w'_2)
 (I [Value.int IntKind.i64 (IntKind.i64.wrap (x + 1))] w'_2 ∧
 m [Value.int IntKind.i64 (IntKind.i64.wrap (x + 1))] w'_2 <
 m [Value.int IntKind.i64 x] w')))
 (bsp (decide ((↑bd.size : Int) > 32768))
 (R (Ending.returned (Value.int IntKind.i64 5)) w')
 (R (Ending.returned (Value.int IntKind.i64 0)) w')))))))
theorem vc_mcheck (fu : ByteArray) (fs : ByteArray) (tu : ByteArray) (ts : ByteArray) (n : Int) (d : Int) (sj : ByteArray) (hp : Option Addr) (hn : Nat) (hc : Nat) (bd : ByteArray) (w : World) (R : Ending → World → Prop) (h : VC_mcheck fu fs tu ts n d sj hp hn hc bd w R) : Calls Tryz.prog 38 ([Value.agg
    #[Value.string fu, Value.string fs, Value.string tu, Value.string ts, Value.int IntKind.i64 n,
      Value.int IntKind.i64 d, Value.string sj, Value.slice hp hn hc, Value.string bd]] : List Value).toArray w R := by
  have e : execR2 { P := Tryz.prog, loops := [(7, [(22, Ck.int IntKind.i64)]), (18, [(50, Ck.int IntKind.i64)])], pur := purM, tails := [(13, 2)], joins := [], boxes := [] } Tryz.f38.results.toList R (Tryz.f38.body.getD .skip) (initF [Value.agg
    #[Value.string fu, Value.string fs, Value.string tu, Value.string ts, Value.int IntKind.i64 n,
      Value.int IntKind.i64 d, Value.string sj, Value.slice hp hn hc,
      Value.string
        bd]] (Tryz.f38.ntmps - ([Value.agg
    #[Value.string fu, Value.string fs, Value.string tu, Value.string ts, Value.int IntKind.i64 n,
      Value.int IntKind.i64 d, Value.string sj, Value.slice hp hn hc,
      Value.string bd]] : List Value).length)) w = VC_mcheck fu fs tu ts n d sj hp hn hc bd w R := by kernel_rfl
  have hb : Tryz.f38.body = some (Tryz.f38.body.getD .skip) := by kernel_rfl
  exact calls_of_exec2' (P := Tryz.prog) (fn := Tryz.f38) (c := Tryz.f38.body.getD .skip) (args := [Value.agg
    #[Value.string fu, Value.string fs, Value.string tu, Value.string ts, Value.int IntKind.i64 n,
      Value.int IntKind.i64 d, Value.string sj, Value.slice hp hn hc,
      Value.string bd]]) (w := w) (R := R) purM_ok Tryz.func38 hb e h

def VC_mclone (fu : ByteArray) (fs : ByteArray) (tu : ByteArray) (ts : ByteArray) (n : Int) (d : Int) (sj : ByteArray) (hp : Option Addr) (hn : Nat) (hc : Nat) (bd : ByteArray) (w : World) (R : Ending → World → Prop) : Prop :=
 ∀ (n_1 n_2 : Nat) (W : World),
 Loc w.heap.size
 [Blk.mk n_2 26
 [Value.string (ByteArray.mk #[]), Value.string (ByteArray.mk #[]), Value.string (ByteArray.mk #[]),
 Value.string (ByteArray.mk #[]), Value.int IntKind.i64 0, Value.int IntKind.i64 0,
 Value.string (ByteArray.mk #[]), Value.slice none 0 0, Value.string (ByteArray.mk #[])]
 2,
 Blk.mk n_1 26
 [Value.string fu, Value.string fs, Value.string tu, Value.string ts, Value.int IntKind.i64 n,
 Value.int IntKind.i64 d, Value.string sj, Value.slice hp hn hc, Value.string bd]
 2]
 w W →
 CallsS Tryz.prog 95 #[Value.slice hp hn hc] W fun (e : Ending) (w' : World) =>
 ∃ (p : Option Addr),
 ∃ (n_3 : Nat),
 ∃ (c : Nat),
 e = Ending.returned (Value.slice p n_3 c) ∧
 KeptL [n_2, n_1] W w' ∧
 ∀ (W : World),
 Loc w.heap.size
 [Blk.mk n_2 26
 [Value.string fu, Value.string fs, Value.string tu, Value.string ts, Value.int IntKind.i64 n,
 Value.int IntKind.i64 d, Value.string sj, Value.slice p n_3 c, Value.string bd]
 (wrM 0),
 Blk.mk n_1 26
 [Value.string fu, Value.string fs, Value.string tu, Value.string ts, Value.int IntKind.i64 n,
 Value.int IntKind.i64 d, Value.string sj, Value.slice p n_3 c, Value.string bd]
 (wrM 0)]
 w' W →
 R
 (Ending.returned
 (Value.agg
 #[Value.string fu, Value.string fs, Value.string tu, Value.string ts, Value.int IntKind.i64 n,
 Value.int IntKind.i64 d, Value.string sj, Value.slice p n_3 c, Value.string bd]))
 W
theorem vc_mclone (fu : ByteArray) (fs : ByteArray) (tu : ByteArray) (ts : ByteArray) (n : Int) (d : Int) (sj : ByteArray) (hp : Option Addr) (hn : Nat) (hc : Nat) (bd : ByteArray) (w : World) (R : Ending → World → Prop) (h : VC_mclone fu fs tu ts n d sj hp hn hc bd w R) : Calls Tryz.prog 53 ([Value.agg
    #[Value.string fu, Value.string fs, Value.string tu, Value.string ts, Value.int IntKind.i64 n,
      Value.int IntKind.i64 d, Value.string sj, Value.slice hp hn hc, Value.string bd]] : List Value).toArray w R := by
  have e : execR2 { P := Tryz.prog, loops := [], pur := purM, tails := [], joins := [], boxes := [] } Tryz.f53.results.toList R (Tryz.f53.body.getD .skip) (initF [Value.agg
    #[Value.string fu, Value.string fs, Value.string tu, Value.string ts, Value.int IntKind.i64 n,
      Value.int IntKind.i64 d, Value.string sj, Value.slice hp hn hc,
      Value.string
        bd]] (Tryz.f53.ntmps - ([Value.agg
    #[Value.string fu, Value.string fs, Value.string tu, Value.string ts, Value.int IntKind.i64 n,
      Value.int IntKind.i64 d, Value.string sj, Value.slice hp hn hc,
      Value.string bd]] : List Value).length)) w = VC_mclone fu fs tu ts n d sj hp hn hc bd w R := by kernel_rfl
  have hb : Tryz.f53.body = some (Tryz.f53.body.getD .skip) := by kernel_rfl
  exact calls_of_exec2' (P := Tryz.prog) (fn := Tryz.f53) (c := Tryz.f53.body.getD .skip) (args := [Value.agg
    #[Value.string fu, Value.string fs, Value.string tu, Value.string ts, Value.int IntKind.i64 n,
      Value.int IntKind.i64 d, Value.string sj, Value.slice hp hn hc,
      Value.string bd]]) (w := w) (R := R) purM_ok Tryz.func53 hb e h

def VC_mequal (fu : ByteArray) (fs : ByteArray) (tu : ByteArray) (ts : ByteArray) (n : Int) (d : Int) (sj : ByteArray) (hp : Option Addr) (hn : Nat) (hc : Nat) (bd : ByteArray) (fuy : ByteArray) (fsy : ByteArray) (tuy : ByteArray) (tsy : ByteArray) (ny : Int) (dy : Int) (sjy : ByteArray) (hpy : Option Addr) (hny : Nat) (hcy : Nat) (bdy : ByteArray) (w : World) (R : Ending → World → Prop) : Prop :=
 ∀ (n_1 n_2 : Nat),
 ∃ (r : Bool),
 EqP Tryz.prog 23 (Value.agg #[Value.string fu, Value.string fs]) (Value.agg #[Value.string fuy, Value.string fsy]) r ∧
 ∃ (x : ByteArray),
 ∃ (x_1 : ByteArray),
 gimp r
 (∀ (W : World),
 Loc w.heap.size
 [Blk.mk n_2 26
 [Value.string fuy, Value.string fsy, Value.string tuy, Value.string tsy, Value.int IntKind.i64 ny,
 Value.int IntKind.i64 dy, Value.string sjy, Value.slice hpy hny hcy, Value.string bdy]
 2,
 Blk.mk n_1 26
 [Value.string fu, Value.string fs, Value.string tu, Value.string ts, Value.int IntKind.i64 n,
 Value.int IntKind.i64 d, Value.string sj, Value.slice hp hn hc, Value.string bd]
 2]
 w W →
 AtL W n_1 (0 + 2) [Value.string x, Value.string x_1]) ∧
 ∃ (x_2 : ByteArray),
 ∃ (x_3 : ByteArray),
 gimp r
 (∀ (W : World),
 Loc w.heap.size
 [Blk.mk n_2 26
 [Value.string fuy, Value.string fsy, Value.string tuy, Value.string tsy, Value.int IntKind.i64 ny,
 Value.int IntKind.i64 dy, Value.string sjy, Value.slice hpy hny hcy, Value.string bdy]
 2,
 Blk.mk n_1 26
 [Value.string fu, Value.string fs, Value.string tu, Value.string ts, Value.int IntKind.i64 n,
 Value.int IntKind.i64 d, Value.string sj, Value.slice hp hn hc, Value.string bd]
 2]
 w W →
 AtL W n_2 (0 + 2) [Value.string x_2, Value.string x_3]) ∧
 ∃ (r_1 : Bool),
 gimp r
 (EqP Tryz.prog 23 (Value.agg #[Value.string x, Value.string x_1])
 (Value.agg #[Value.string x_2, Value.string x_3]) r_1) ∧
 ∃ (x : Int),
 gimp (r && r_1)
 (∀ (W : World),
 Loc w.heap.size
 [Blk.mk n_2 26
 [Value.string fuy, Value.string fsy, Value.string tuy, Value.string tsy, Value.int IntKind.i64 ny,
 Value.int IntKind.i64 dy, Value.string sjy, Value.slice hpy hny hcy, Value.string bdy]
 2,
 Blk.mk n_1 26
 [Value.string fu, Value.string fs, Value.string tu, Value.string ts, Value.int IntKind.i64 n,
 Value.int IntKind.i64 d, Value.string sj, Value.slice hp hn hc, Value.string bd]
 2]
 w W →
 W.cell? (Addr.mk n_1 (0 + 4) none) = some (Value.int IntKind.i64 x)) ∧
 ∃ (x_4 : Int),
 gimp (r && r_1)
 (∀ (W : World),
 Loc w.heap.size
 [Blk.mk n_2 26
 [Value.string fuy, Value.string fsy, Value.string tuy, Value.string tsy, Value.int IntKind.i64 ny,
 Value.int IntKind.i64 dy, Value.string sjy, Value.slice hpy hny hcy, Value.string bdy]
 2,
 Blk.mk n_1 26
 [Value.string fu, Value.string fs, Value.string tu, Value.string ts, Value.int IntKind.i64 n,
 Value.int IntKind.i64 d, Value.string sj, Value.slice hp hn hc, Value.string bd]
 2]
 w W →
 W.cell? (Addr.mk n_2 (0 + 4) none) = some (Value.int IntKind.i64 x_4)) ∧
 ∃ (x_5 : Int),
 gimp (r && r_1 && x == x_4)
 (∀ (W : World),
 Loc w.heap.size
 [Blk.mk n_2 26
 [Value.string fuy, Value.string fsy, Value.string tuy, Value.string tsy,
 Value.int IntKind.i64 ny, Value.int IntKind.i64 dy, Value.string sjy, Value.slice hpy hny hcy,
 Value.string bdy]
 2,
 Blk.mk n_1 26
 [Value.string fu, Value.string fs, Value.string tu, Value.string ts, Value.int IntKind.i64 n,
 Value.int IntKind.i64 d, Value.string sj, Value.slice hp hn hc, Value.string bd]
 2]
 w W →
 W.cell? (Addr.mk n_1 (0 + 5) none) = some (Value.int IntKind.i64 x_5)) ∧
 ∃ (x_6 : Int),
 gimp (r && r_1 && x == x_4)
 (∀ (W : World),
 Loc w.heap.size
 [Blk.mk n_2 26
 [Value.string fuy, Value.string fsy, Value.string tuy, Value.string tsy,
 Value.int IntKind.i64 ny, Value.int IntKind.i64 dy, Value.string sjy, Value.slice hpy hny hcy,
 Value.string bdy]
 2,
 Blk.mk n_1 26
 [Value.string fu, Value.string fs, Value.string tu, Value.string ts, Value.int IntKind.i64 n,
 Value.int IntKind.i64 d, Value.string sj, Value.slice hp hn hc, Value.string bd]
 2]
 w W →
 W.cell? (Addr.mk n_2 (0 + 5) none) = some (Value.int IntKind.i64 x_6)) ∧
 ∃ (x_7 : ByteArray),
 gimp (r && r_1 && x == x_4 && x_5 == x_6)
 (∀ (W : World),
 Loc w.heap.size
 [Blk.mk n_2 26
 [Value.string fuy, Value.string fsy, Value.string tuy, Value.string tsy,
 Value.int IntKind.i64 ny, Value.int IntKind.i64 dy, Value.string sjy,
 Value.slice hpy hny hcy, Value.string bdy]
 2,
 Blk.mk n_1 26
 [Value.string fu, Value.string fs, Value.string tu, Value.string ts, Value.int IntKind.i64 n,
 Value.int IntKind.i64 d, Value.string sj, Value.slice hp hn hc, Value.string bd]
 2]
 w W →
 W.cell? (Addr.mk n_1 (0 + 6) none) = some (Value.string x_7)) ∧
 ∃ (x_8 : ByteArray),
 gimp (r && r_1 && x == x_4 && x_5 == x_6)
 (∀ (W : World),
 Loc w.heap.size
 [Blk.mk n_2 26
 [Value.string fuy, Value.string fsy, Value.string tuy, Value.string tsy,
 Value.int IntKind.i64 ny, Value.int IntKind.i64 dy, Value.string sjy,
 Value.slice hpy hny hcy, Value.string bdy]
 2,
 Blk.mk n_1 26
 [Value.string fu, Value.string fs, Value.string tu, Value.string ts,
 Value.int IntKind.i64 n, Value.int IntKind.i64 d, Value.string sj, Value.slice hp hn hc,
 Value.string bd]
 2]
 w W →
 W.cell? (Addr.mk n_2 (0 + 6) none) = some (Value.string x_8)) ∧
 ∃ (p : Option Addr),
 ∃ (n_3 : Nat),
 ∃ (c : Nat),
 gimp (r && r_1 && x == x_4 && x_5 == x_6 && x_7.toList == x_8.toList)
 (∀ (W : World),
 Loc w.heap.size
 [Blk.mk n_2 26
 [Value.string fuy, Value.string fsy, Value.string tuy, Value.string tsy,
 Value.int IntKind.i64 ny, Value.int IntKind.i64 dy, Value.string sjy,
 Value.slice hpy hny hcy, Value.string bdy]
 2,
 Blk.mk n_1 26
 [Value.string fu, Value.string fs, Value.string tu, Value.string ts,
 Value.int IntKind.i64 n, Value.int IntKind.i64 d, Value.string sj,
 Value.slice hp hn hc, Value.string bd]
 2]
 w W →
 W.cell? (Addr.mk n_1 (0 + 7) none) = some (Value.slice p n_3 c)) ∧
 ∃ (p_1 : Option Addr),
 ∃ (n_4 : Nat),
 ∃ (c_1 : Nat),
 gimp (r && r_1 && x == x_4 && x_5 == x_6 && x_7.toList == x_8.toList)
 (∀ (W : World),
 Loc w.heap.size
 [Blk.mk n_2 26
 [Value.string fuy, Value.string fsy, Value.string tuy, Value.string tsy,
 Value.int IntKind.i64 ny, Value.int IntKind.i64 dy, Value.string sjy,
 Value.slice hpy hny hcy, Value.string bdy]
 2,
 Blk.mk n_1 26
 [Value.string fu, Value.string fs, Value.string tu, Value.string ts,
 Value.int IntKind.i64 n, Value.int IntKind.i64 d, Value.string sj,
 Value.slice hp hn hc, Value.string bd]
 2]
 w W →
 W.cell? (Addr.mk n_2 (0 + 7) none) = some (Value.slice p_1 n_4 c_1)) ∧
 ∀ (W : World),
 Loc w.heap.size
 [Blk.mk n_2 26
 [Value.string fuy, Value.string fsy, Value.string tuy, Value.string tsy,
 Value.int IntKind.i64 ny, Value.int IntKind.i64 dy, Value.string sjy,
 Value.slice hpy hny hcy, Value.string bdy]
 2,
 Blk.mk n_1 26
 [Value.string fu, Value.string fs, Value.string tu, Value.string ts,
 Value.int IntKind.i64 n, Value.int IntKind.i64 d, Value.string sj,
 Value.slice hp hn hc, Value.string bd]
 2]
 w W →
 bsp (r && r_1 && x == x_4 && x_5 == x_6 && x_7.toList == x_8.toList)
 (CallsS Tryz.prog 48 #[Value.slice p n_3 c, Value.slice p_1 n_4 c_1] W
 fun (e : Ending) (w' : World) =>
 ∃ (x : Bool),
 e = Ending.returned (Value.bool x) ∧
 KeptL [n_2, n_1] W w' ∧
 ∃ (x_9 : ByteArray),
 gimp (true && x)
 (w'.cell? (Addr.mk n_1 (0 + 8) none) = some (Value.string x_9)) ∧
 ∃ (x_10 : ByteArray),
 gimp (true && x)
 (w'.cell? (Addr.mk n_2 (0 + 8) none) = some (Value.string x_10)) ∧
 R (Ending.returned (Value.bool (true && x && x_9.toList == x_10.toList))) w')
 (KeptL [n_2, n_1] W W ∧
 ∃ (x : ByteArray),
 True ∧
 ∃ (x_9 : ByteArray),
 True ∧ R (Ending.returned (Value.bool (false && x.toList == x_9.toList))) W)
theorem vc_mequal (fu : ByteArray) (fs : ByteArray) (tu : ByteArray) (ts : ByteArray) (n : Int) (d : Int) (sj : ByteArray) (hp : Option Addr) (hn : Nat) (hc : Nat) (bd : ByteArray) (fuy : ByteArray) (fsy : ByteArray) (tuy : ByteArray) (tsy : ByteArray) (ny : Int) (dy : Int) (sjy : ByteArray) (hpy : Option Addr) (hny : Nat) (hcy : Nat) (bdy : ByteArray) (w : World) (R : Ending → World → Prop) (h : VC_mequal fu fs tu ts n d sj hp hn hc bd fuy fsy tuy tsy ny dy sjy hpy hny hcy bdy w R) : Calls Tryz.prog 16 ([Value.agg
    #[Value.string fu, Value.string fs, Value.string tu, Value.string ts, Value.int IntKind.i64 n,
      Value.int IntKind.i64 d, Value.string sj, Value.slice hp hn hc, Value.string bd],
  Value.agg
    #[Value.string fuy, Value.string fsy, Value.string tuy, Value.string tsy, Value.int IntKind.i64 ny,
      Value.int IntKind.i64 dy, Value.string sjy, Value.slice hpy hny hcy,
      Value.string bdy]] : List Value).toArray w R := by
  have e : execR2 { P := Tryz.prog, loops := [], pur := purM, tails := [], joins := [], boxes := [] } Tryz.f16.results.toList R (Tryz.f16.body.getD .skip) (initF [Value.agg
    #[Value.string fu, Value.string fs, Value.string tu, Value.string ts, Value.int IntKind.i64 n,
      Value.int IntKind.i64 d, Value.string sj, Value.slice hp hn hc, Value.string bd],
  Value.agg
    #[Value.string fuy, Value.string fsy, Value.string tuy, Value.string tsy, Value.int IntKind.i64 ny,
      Value.int IntKind.i64 dy, Value.string sjy, Value.slice hpy hny hcy,
      Value.string
        bdy]] (Tryz.f16.ntmps - ([Value.agg
    #[Value.string fu, Value.string fs, Value.string tu, Value.string ts, Value.int IntKind.i64 n,
      Value.int IntKind.i64 d, Value.string sj, Value.slice hp hn hc, Value.string bd],
  Value.agg
    #[Value.string fuy, Value.string fsy, Value.string tuy, Value.string tsy, Value.int IntKind.i64 ny,
      Value.int IntKind.i64 dy, Value.string sjy, Value.slice hpy hny hcy,
      Value.string
        bdy]] : List Value).length)) w = VC_mequal fu fs tu ts n d sj hp hn hc bd fuy fsy tuy tsy ny dy sjy hpy hny hcy bdy w R := by kernel_rfl
  have hb : Tryz.f16.body = some (Tryz.f16.body.getD .skip) := by kernel_rfl
  exact calls_of_exec2' (P := Tryz.prog) (fn := Tryz.f16) (c := Tryz.f16.body.getD .skip) (args := [Value.agg
    #[Value.string fu, Value.string fs, Value.string tu, Value.string ts, Value.int IntKind.i64 n,
      Value.int IntKind.i64 d, Value.string sj, Value.slice hp hn hc, Value.string bd],
  Value.agg
    #[Value.string fuy, Value.string fsy, Value.string tuy, Value.string tsy, Value.int IntKind.i64 ny,
      Value.int IntKind.i64 dy, Value.string sjy, Value.slice hpy hny hcy,
      Value.string bdy]]) (w := w) (R := R) purM_ok Tryz.func16 hb e h

def VC_join (p : Option Addr) (n : Nat) (c : Nat) (s : ByteArray) (w : World) (R : Ending → World → Prop) : Prop :=
 bsp ((↑n : Int) == 0) (R (Ending.returned (Value.string (ByteArray.mk #[]))) w)
 (bsp ((↑n : Int) == 1)
 (nn true p fun (b o : Nat) =>
 ((0 : Int) ≤ 0 ∧ 0 < (↑n : Int)) ∧
 ∃ (x : ByteArray), w.cell? (Addr.mk b o none) = some (Value.string x) ∧ R (Ending.returned (Value.string x)) w)
 (bsp (decide ((↑s.size : Int) > 0))
 ((IntKind.i64 = IntKind.i64 ∧ IntKind.i64.wrap ((↑n : Int) - 1) ≠ 0) ∧
 bsp (decide ((↑s.size : Int) ≥ IntKind.i64.wrap (Int.tdiv 9223372036854775807 (IntKind.i64.wrap ((↑n : Int) - 1)))))
 False
 (∃ (I : List Value → World → Prop),
 ∃ (m : List Value → World → Nat),
 I
 [Value.int IntKind.i64 0,
 Value.int IntKind.i64
 (IntKind.i64.wrap (0 + IntKind.i64.wrap ((↑s.size : Int) * IntKind.i64.wrap ((↑n : Int) - 1))))]
 w ∧
 ∀ (x x_1 : Int) (w' : World),
 I [Value.int IntKind.i64 x, Value.int IntKind.i64 x_1] w' →
 bsp (decide (x < (↑n : Int)))
 (nn true p fun (b o : Nat) =>
 (0 ≤ x ∧ x < (↑n : Int)) ∧
 ∃ (x_2 : ByteArray),
 w'.cell? (Addr.mk b (o + x.toNat) none) = some (Value.string x_2) ∧
 bsp (decide ((↑x_2.size : Int) > IntKind.i64.wrap (9223372036854775807 - x_1))) False
 (I
 [Value.int IntKind.i64 (IntKind.i64.wrap (x + 1)),
 Value.int IntKind.i64 (IntKind.i64.wrap (x_1 + (↑x_2.size : Int)))]
 w' ∧
 m
 [Value.int IntKind.i64 (IntKind.i64.wrap (x + 1)),
 Value.int IntKind.i64 (IntKind.i64.wrap (x_1 + (↑x_2.size : Int)))]
 w' <
 m [Value.int IntKind.i64 x, Value.int IntKind.i64 x_1] w'))
 (∀ (n_1 : Nat) (W : World),
 Loc w.heap.size [Blk.mk n_1 140 [Value.pointer none, Value.slice none 0 0] 2] w' W →
 CallsS Tryz.prog 86 #[Value.pointer (some (Addr.mk n_1 0 none)), Value.int IntKind.i64 x_1] W
 fun (e : Ending) (w' : World) =>
 e = Ending.returned (Value.tuple #[]) ∧
 KeptL [] W w' ∧
 nn true p fun (b o : Nat) =>
 ((0 : Int) ≤ 0 ∧ 0 < (↑n : Int)) ∧
 ∃ (x : ByteArray),
 w'.cell? (Addr.mk b o none) = some (Value.string x) ∧
 CallsS Tryz.prog 82 #[Value.pointer (some (Addr.mk n_1 0 none)), Value.string x] w'
 fun (e : Ending) (w'_1 : World) =>
 ∃ (x : Int),
 ∃ (x_2 : Value),
 e = Ending.returned (Value.tuple #[Value.int IntKind.i64 x, x_2]) ∧
 KeptL [] w' w'_1 ∧
 ((0 : Int) ≤ 1 ∧ 1 ≤ (↑n : Int)) ∧
 ∃ (I : List Value → World → Prop),
 ∃ (m : List Value → World → Nat),
 I [Value.int IntKind.i64 0] w'_1 ∧
 ∀ (x : Int) (w' : World),
 I [Value.int IntKind.i64 x] w' →
 bsp (decide (x < (↑(n - Int.toNat 1) : Int)))
 (nn true (slA p c 1 1) fun (b o : Nat) =>
 (0 ≤ x ∧ x < (↑(n - 1) : Int)) ∧
 ∃ (x_3 : ByteArray),
 w'.cell? (Addr.mk b (o + x.toNat) none) = some (Value.string x_3) ∧
 CallsS Tryz.prog 82 #[Value.pointer (some (Addr.mk n_1 0 none)), Value.string s] w'
 fun (e : Ending) (w'_2 : World) =>
 ∃ (x_4 : Int),
 ∃ (x_5 : Value),
 e = Ending.returned (Value.tuple #[Value.int IntKind.i64 x_4, x_5]) ∧
 KeptL [] w' w'_2 ∧
 CallsS Tryz.prog 82
 #[Value.pointer (some (Addr.mk n_1 0 none)), Value.string x_3] w'_2
 fun (e : Ending) (w'_3 : World) =>
 ∃ (x_6 : Int),
 ∃ (x_7 : Value),
 e = Ending.returned (Value.tuple #[Value.int IntKind.i64 x_6, x_7]) ∧
 KeptL [] w'_2 w'_3 ∧
 I [Value.int IntKind.i64 (IntKind.i64.wrap (x + 1))] w'_3 ∧
 m [Value.int IntKind.i64 (IntKind.i64.wrap (x + 1))] w'_3 <
 m [Value.int IntKind.i64 x] w')
 (CallsS Tryz.prog 84 #[Value.pointer (some (Addr.mk n_1 0 none))] w'
 fun (e : Ending) (w'_2 : World) =>
 ∃ (x : ByteArray),
 e = Ending.returned (Value.string x) ∧
 KeptL [] w' w'_2 ∧ R (Ending.returned (Value.string x)) w'_2))))
 (∃ (I : List Value → World → Prop),
 ∃ (m : List Value → World → Nat),
 I [Value.int IntKind.i64 0, Value.int IntKind.i64 0] w ∧
 ∀ (x x_1 : Int) (w' : World),
 I [Value.int IntKind.i64 x, Value.int IntKind.i64 x_1] w' →
 bsp (decide (x < (↑n : Int)))
 (nn true p fun (b o : Nat) =>
 (0 ≤ x ∧ x < (↑n : Int)) ∧
 ∃ (x_2 : ByteArray),
 w'.cell? (Addr.mk b (o + x.toNat) none) = some (Value.string x_2) ∧
 bsp (decide ((↑x_2.size : Int) > IntKind.i64.wrap (9223372036854775807 - x_1))) False
 (I
 [Value.int IntKind.i64 (IntKind.i64.wrap (x + 1)),
 Value.int IntKind.i64 (IntKind.i64.wrap (x_1 + (↑x_2.size : Int)))]
 w' ∧
 m
 [Value.int IntKind.i64 (IntKind.i64.wrap (x + 1)),
 Value.int IntKind.i64 (IntKind.i64.wrap (x_1 + (↑x_2.size : Int)))]
 w' <
 m [Value.int IntKind.i64 x, Value.int IntKind.i64 x_1] w'))
 (∀ (n_1 : Nat) (W : World),
 Loc w.heap.size [Blk.mk n_1 140 [Value.pointer none, Value.slice none 0 0] 2] w' W →
 CallsS Tryz.prog 86 #[Value.pointer (some (Addr.mk n_1 0 none)), Value.int IntKind.i64 x_1] W
 fun (e : Ending) (w' : World) =>
 e = Ending.returned (Value.tuple #[]) ∧
 KeptL [] W w' ∧
 nn true p fun (b o : Nat) =>
 ((0 : Int) ≤ 0 ∧ 0 < (↑n : Int)) ∧
 ∃ (x : ByteArray),
 w'.cell? (Addr.mk b o none) = some (Value.string x) ∧
 CallsS Tryz.prog 82 #[Value.pointer (some (Addr.mk n_1 0 none)), Value.string x] w'
 fun (e : Ending) (w'_1 : World) =>
 ∃ (x : Int),
 ∃ (x_2 : Value),
 e = Ending.returned (Value.tuple #[Value.int IntKind.i64 x, x_2]) ∧
 KeptL [] w' w'_1 ∧
 ((0 : Int) ≤ 1 ∧ 1 ≤ (↑n : Int)) ∧
 ∃ (I : List Value → World → Prop),
 ∃ (m : List Value → World → Nat),
 I [Value.int IntKind.i64 0] w'_1 ∧
 ∀ (x : Int) (w' : World),
 I [Value.int IntKind.i64 x] w' →
 bsp (decide (x < (↑(n - Int.toNat 1) : Int)))
 (nn true (slA p c 1 1) fun (b o : Nat) =>
 (0 ≤ x ∧ x < (↑(n - 1) : Int)) ∧
 ∃ (x_3 : ByteArray),
 w'.cell? (Addr.mk b (o + x.toNat) none) = some (Value.string x_3) ∧
 CallsS Tryz.prog 82 #[Value.pointer (some (Addr.mk n_1 0 none)), Value.string s] w'
 fun (e : Ending) (w'_2 : World) =>
 ∃ (x_4 : Int),
 ∃ (x_5 : Value),
 e = Ending.returned (Value.tuple #[Value.int IntKind.i64 x_4, x_5]) ∧
 KeptL [] w' w'_2 ∧
 CallsS Tryz.prog 82
 #[Value.pointer (some (Addr.mk n_1 0 none)), Value.string x_3] w'_2
 fun (e : Ending) (w'_3 : World) =>
 ∃ (x_6 : Int),
 ∃ (x_7 : Value),
 e = Ending.returned (Value.tuple #[Value.int IntKind.i64 x_6, x_7]) ∧
 KeptL [] w'_2 w'_3 ∧
 I [Value.int IntKind.i64 (IntKind.i64.wrap (x + 1))] w'_3 ∧
 m [Value.int IntKind.i64 (IntKind.i64.wrap (x + 1))] w'_3 <
 m [Value.int IntKind.i64 x] w')
 (CallsS Tryz.prog 84 #[Value.pointer (some (Addr.mk n_1 0 none))] w'
 fun (e : Ending) (w'_2 : World) =>
 ∃ (x : ByteArray),
 e = Ending.returned (Value.string x) ∧
 KeptL [] w' w'_2 ∧ R (Ending.returned (Value.string x)) w'_2)))))
theorem vc_join (p : Option Addr) (n : Nat) (c : Nat) (s : ByteArray) (w : World) (R : Ending → World → Prop) (h : VC_join p n c s w R) : Calls Tryz.prog 42 ([Value.slice
    p n c,
  Value.string s] : List Value).toArray w R := by
  have e : execR2 { P := Tryz.prog, loops := [(12, [(41, Ck.int IntKind.i64), (5, Ck.int IntKind.i64)]), (22, [(65, Ck.int IntKind.i64)])], pur := purM, tails := [], joins := [], boxes := [] } Tryz.f42.results.toList R (Tryz.f42.body.getD .skip) (initF [Value.slice
    p n c,
  Value.string
    s] (Tryz.f42.ntmps - ([Value.slice p n c,
  Value.string s] : List Value).length)) w = VC_join p n c s w R := by kernel_rfl
  have hb : Tryz.f42.body = some (Tryz.f42.body.getD .skip) := by kernel_rfl
  exact calls_of_exec2' (P := Tryz.prog) (fn := Tryz.f42) (c := Tryz.f42.body.getD .skip) (args := [Value.slice p n c,
  Value.string s]) (w := w) (R := R) purM_ok Tryz.func42 hb e h

end Go.Proofs.YtmlmdljnfokebaaGreatDoor

/- Chapter 49: the contracts of strings.Join (a space between) and Squeeze. Texts have at most 2^30 bytes together. -/
namespace Go.Proofs.YtmlmdljnfokebaaGreatDoor
open Go.RowKit

def sumZ (l : List ByteArray) : Nat := (l.map ByteArray.size).sum
theorem sumZ_snoc (l : List ByteArray) (x : ByteArray) : sumZ (l ++ [x]) = sumZ l + x.size := by simp [sumZ]
theorem sumZ_cons (l : List ByteArray) (x : ByteArray) : sumZ (x :: l) = x.size + sumZ l := by simp [sumZ]
theorem sumZ_take : ∀ (l : List ByteArray) (i : Nat), sumZ (l.take i) ≤ sumZ l
  | [], i => by rw [List.take_nil]; exact Nat.le_refl _
  | x :: l, 0 => Nat.zero_le _
  | x :: l, i + 1 => by rw [List.take_succ_cons, sumZ_cons, sumZ_cons]; have := sumZ_take l i; omega
theorem foldT_size (c : UInt8) : ∀ (l : List ByteArray) (a : ByteArray), (l.foldl (fun a y => a ++ ⟨#[c]⟩ ++ y) a).size = a.size + l.length + sumZ l
  | [], a => by simp [sumZ]
  | x :: l, a => by
    rw [List.foldl_cons, foldT_size c l, ByteArray.size_append, ByteArray.size_append, size_one, sumZ_cons, List.length_cons]; omega
theorem joinT_size (c : UInt8) (l : List ByteArray) : (joinT c l).size ≤ l.length + sumZ l := by
  cases l with
  | nil => exact Nat.le_refl _
  | cons x r => show (r.foldl _ x).size ≤ _; rw [foldT_size, sumZ_cons, List.length_cons]; omega
theorem nneg {a : Nat} (h : a ≤ 4611686018427387904) : ((9223372036854775807 : Int) - (a : Int)).NonNeg :=
  Int.nonneg_def.2 ⟨9223372036854775807 - a, by omega⟩
theorem str_eq {a b : ByteArray} (h : a.toList = b.toList) : a = b := by
  rw [ByteArray.toList_eq, ByteArray.toList_eq] at h
  exact ByteArray.ext (Array.toList_inj.1 h)
theorem str_get {w : World} {p : Option Addr} {zs : List ByteArray} (h : StrP w p zs) {k : Nat} (hk : k < zs.length) : ∃ z b o, zs[k]? = some z ∧ p = some ⟨b, o, none⟩ ∧ w.cell? ⟨b, o + k, none⟩ = some (.string z) := h.get hk

theorem join_any (l : List ByteArray) (p : Option Addr) (c : Nat) (w : World) (hR : StrP w p l) (hl : l.length ≤ 1073741824) (hz : sumZ l ≤ 1073741824) (hc : l.length ≤ c) :
    Calls Tryz.prog 42 #[.slice p l.length c, .string ⟨#[32]⟩] w fun e w' => e = .returned (.string (joinT 32 l)) ∧ K0 w w' := by
  refine vc_join p l.length c ⟨#[32]⟩ w _ (bsp_intro (fun h0 => ?_) (fun h0 => bsp_intro (fun h1 => ?_) (fun h1 => bsp_intro (fun _ => ?_) (fun h => by rw [size_one] at h; simp at h))))
  · have h0 : l.length = 0 := by simp at h0; simp [h0]
    have : l = [] := List.eq_nil_of_length_eq_zero h0
    subst this
    exact ⟨rfl, .refl _ _⟩
  · have h1 : l.length = 1 := by simp at h1; omega
    match l, h1 with
    | [x], _ =>
      obtain ⟨z, b, o, hz', hp, hc'⟩ := str_get hR (k := 0) (by simp)
      simp at hz'; subst hz'
      exact nn_is hp ⟨⟨by omega, by show (0 : Int) < 1; omega⟩, x, by simpa using hc', rfl, .refl _ _⟩
  have h0 : ¬ l.length = 0 := by simp at h0; intro e; exact h0 (List.eq_nil_of_length_eq_zero e)
  have h1 : ¬ l.length = 1 := by simp at h1; omega
  have e1 : IntKind.i64.wrap ((l.length : Int) - 1) = ((l.length - 1 : Nat) : Int) := by rw [wr64 (by omega) (by omega)]; omega
  rw [e1]
  refine ⟨⟨rfl, by omega⟩, bsp_intro (fun h => ?_) (fun _ => ?_)⟩
  · exfalso
    rw [size_one] at h
    have hd : (1 : Int) < (9223372036854775807 : Int).tdiv ((l.length - 1 : Nat) : Int) := by
      rw [Int.tdiv_eq_ediv_of_nonneg (by omega)]
      have : (2 : Int) ≤ 9223372036854775807 / ((l.length - 1 : Nat) : Int) := by
        rw [Int.le_ediv_iff_mul_le (by omega)]; omega
      omega
    have hu : (9223372036854775807 : Int).tdiv ((l.length - 1 : Nat) : Int) ≤ 9223372036854775807 := by
      rw [Int.tdiv_eq_ediv_of_nonneg (by omega)]
      exact Int.ediv_le_self _ (by omega)
    rw [wr64 (by omega) hu] at h
    simp at h
    omega
  have e2 : IntKind.i64.wrap (0 + IntKind.i64.wrap (((⟨#[32]⟩ : ByteArray).size : Int) * ((l.length - 1 : Nat) : Int))) = ((l.length - 1 : Nat) : Int) := by
    rw [size_one, wr64 (x := ((1 : Nat) : Int) * _) (by omega) (by omega), wr64 (by omega) (by omega)]; omega
  rw [e2]
  refine ⟨fun vs w' => ∃ i : Nat, vs = [.int .i64 (i : Int), .int .i64 ((l.length - 1 + sumZ (l.take i) : Nat) : Int)] ∧ i ≤ l.length ∧ K0 w w',
    fun vs _ => (match vs with | .int _ x :: _ => l.length - x.toNat | _ => 0), ⟨0, by simp [sumZ], by omega, .refl _ _⟩, ?_⟩
  rintro x x1 w1 ⟨i, hv, hi, k1⟩
  simp only [List.cons.injEq, Value.int.injEq, true_and, and_true] at hv
  obtain ⟨rfl, rfl⟩ := hv
  have hst := sumZ_take l i
  refine bsp_intro (fun hlt => ?_) (fun hge => ?_)
  · have hlt : i < l.length := by simp at hlt; omega
    obtain ⟨z, b, o, hz', hp, hc'⟩ := str_get (hR.k0 k1) hlt
    have hs2 := sumZ_take l (i + 1)
    rw [take_snoc hz', sumZ_snoc] at hs2
    rw [Int.toNat_natCast]
    refine nn_is hp ⟨⟨by omega, by omega⟩, z, hc', bsp_intro (fun h => ?_) (fun _ => ⟨⟨i + 1, ?_, hlt, k1⟩, by rw [inc64 (by omega)]; simp only [Int.toNat_natCast]; omega⟩)⟩
    · exfalso
      rw [wr64 (by omega) (by omega)] at h
      simp at h
      omega
    · rw [inc64 (by omega), wr64 (x := ((l.length - 1 + sumZ (l.take i) : Nat) : Int) + (z.size : Int)) (by omega) (by omega), take_snoc hz', sumZ_snoc]
      simp
      omega
  intro n1 W hW
  have kW : K0 w W := k1.trans (hW.kk rfl)
  have gn : w.heap.size ≤ n1 := Nat.le_trans k1.size (hW.fresh 0 rfl rfl)
  have hbk : W.heap[n1]? = some (.cells #[.pointer none, .slice none 0 0] 140 (0, 0)) := hW.cells 0 rfl
  refine ⟨(Tryz.Builder_Grow_fresh n1 n1 _ W (Nat.le_refl _) hbk (Nat.le_of_lt (block_lt hbk)) (by omega)).mono fun e w2 ⟨he, h2, b2⟩ => ⟨he, ⟨b2.size, fun _ hm => by cases hm⟩, ?_⟩⟩
  have kb2 : Kp (fun k => n1 ≤ k) W w2 := ⟨b2.os, b2.tape, b2.output, b2.size, fun k _ hb => b2.block k (by omega)⟩
  have k2 : K0 w w2 := kW.fresh kb2 (fun j hj e => by omega)
  have hB2 : Bld n1 ⟨#[]⟩ w2 := .inr h2
  obtain ⟨x0, b, o, hx0, hp, hc0⟩ := str_get (hR.k0 k2) (k := 0) (by omega)
  have hs1 := sumZ_take l 1
  rw [take_snoc hx0, sumZ_snoc] at hs1
  refine nn_is hp ⟨⟨by omega, by omega⟩, x0, by simpa using hc0, ?_⟩
  have hx0z : x0.size ≤ 1073741824 := by omega
  refine ⟨(hB2.write x0 (by show 0 + _ ≤ _; omega)).mono fun e w3 ⟨he, hB3, kb3, _⟩ => ⟨_, _, he, ⟨kb3.size, fun _ hm => by cases hm⟩, ⟨by omega, by omega⟩, ?_⟩⟩
  have k3 : K0 w w3 := k2.fresh kb3 (fun j hj e => by omega)
  have e3 : (⟨#[]⟩ ++ x0 : ByteArray) = joinT 32 (l.take 1) := by
    rw [take_snoc hx0]; show (ByteArray.empty ++ x0) = x0; simp
  rw [e3] at hB3
  have e4 : ((l.length - Int.toNat 1 : Nat) : Int) = ((l.length - 1 : Nat) : Int) := rfl
  rw [e4]
  refine ⟨fun vs w' => ∃ i : Nat, vs = [.int .i64 (i : Int)] ∧ i + 1 ≤ l.length ∧ Bld n1 (joinT 32 (l.take (i + 1))) w' ∧ K0 w w',
    fun vs _ => (match vs with | .int _ x :: _ => l.length - x.toNat | _ => 0), ⟨0, rfl, by omega, hB3, k3⟩, ?_⟩
  rintro y w4 ⟨i, hv, hi4, hB4, k4⟩
  simp only [List.cons.injEq, Value.int.injEq, true_and, and_true] at hv
  subst hv
  have hjz := joinT_size 32 (l.take (i + 1))
  have hst4 := sumZ_take l (i + 1)
  have hlt4 : (l.take (i + 1)).length ≤ l.length := by rw [List.length_take]; omega
  refine bsp_intro (fun hlt => ?_) (fun hge => ?_)
  · have hlt : i + 1 < l.length := by simp at hlt; omega
    obtain ⟨z, b', o', hz', hp', hc'⟩ := str_get (hR.k0 k4) hlt
    have hs2 := sumZ_take l (i + 1 + 1)
    rw [take_snoc hz', sumZ_snoc] at hs2
    have hpp : slA p c 1 1 = some ⟨b', o' + 1, none⟩ := by
      rw [hp']
      unfold slA
      rw [if_neg (by omega)]
      rfl
    rw [Int.toNat_natCast]
    refine nn_is hpp ⟨⟨by omega, by omega⟩, z, by rw [show o' + 1 + i = o' + (i + 1) by omega]; exact hc', ?_⟩
    refine ⟨(hB4.write ⟨#[32]⟩ (by rw [size_one]; omega)).mono fun e w5 ⟨he, hB5, kb5, _⟩ => ⟨_, _, he, ⟨kb5.size, fun _ hm => by cases hm⟩, ?_⟩⟩
    refine ⟨(hB5.write z (by simp only [ByteArray.size_append, size_one]; omega)).mono fun e w6 ⟨he, hB6, kb6, _⟩ => ⟨_, _, he, ⟨kb6.size, fun _ hm => by cases hm⟩, ⟨i + 1, by rw [inc64 (by omega)], by omega, ?_, ?_⟩, by rw [inc64 (by omega)]; simp only [Int.toNat_natCast]; omega⟩⟩
    · rw [take_snoc hz', joinT_snoc 32 (by intro e; rcases List.take_eq_nil_iff.1 e with e | e; omega; exact h0 (by rw [e]; rfl))]
      exact hB6
    · exact (k4.fresh kb5 (fun j hj e => by omega)).fresh kb6 (fun j hj e => by omega)
  · have hi : i + 1 = l.length := by simp at hge; omega
    rw [hi, List.take_length] at hB4
    exact ⟨hB4.text.mono fun e w5 ⟨he, kb5⟩ => ⟨_, he, ⟨kb5.size, fun _ hm => by cases hm⟩, rfl, k4.fresh kb5 (fun j hj e => by omega)⟩⟩

theorem wordsF_sum (s : ByteArray) : ∀ (f i : Nat), i ≤ s.size → sumZ (wordsF s f i) ≤ s.size - i ∧ (wordsF s f i).length ≤ s.size - i
  | 0, i, h => by simp [wordsF, sumZ]
  | f + 1, i, h => by
    unfold wordsF
    have a := skipN_to blankB s h
    have b := skipN_to blackB s a.2.1
    generalize skipN blackB s (skipN blankB s i) = d at *
    generalize skipN blankB s i = c at *
    have ih := wordsF_sum s f d b.2.1
    have := a.1; have := b.1; have := b.2.1
    split
    · split
      · rw [sumZ_cons, List.length_cons, ByteArray.size_extract]; omega
      · omega
    · simp [sumZ]
theorem squeeze_any (s : ByteArray) (w : World) (hz : s.size ≤ 1073741824) :
    Calls Tryz.prog 79 #[.string s] w fun e w' => e = .returned (.string (squeeze s)) ∧ K0 w w' := by
  have hs := wordsF_sum s s.size 0 (by omega)
  refine vc_squeeze s w _ ⟨(words_any s w hz).mono fun e w1 ⟨⟨p, c, he, ho⟩, k1⟩ => ⟨_, _, _, he, .of_k0 k1, ?_⟩⟩
  have hR : StrP w1 p (words s) := fun k z hk => by
    obtain ⟨g, v, h1, h2, h3⟩ := own_cell ho (List.getElem?_eq_some_iff.1 hk).1
    rw [List.getElem?_map, hk] at h2
    simp at h2
    subst h2
    exact ⟨g, 0, h1, h3⟩
  exact ⟨(join_any (words s) p c w1 hR (by unfold words; omega) (by unfold words; omega) (own_le ho)).mono fun e w2 ⟨he, k2⟩ => ⟨_, he, .of_k0 k2, rfl, k1.trans k2⟩⟩

end Go.Proofs.YtmlmdljnfokebaaGreatDoor

/- Chapter 49: strings.ContainsRune of '-_.+' and a byte taken as a rune. No condition. -/
namespace Go.Proofs.YtmlmdljnfokebaaGreatDoor
open Go.RowKit

theorem enc_two {r : Int} (h0 : 128 ≤ r) (h1 : r < 256) : ∃ a b : UInt8, Utf8.encode r = ⟨#[a, b]⟩ ∧ 128 ≤ b.toNat := by
  have key : ∀ n : Fin 128, (Utf8.encode ((128 + n.val : Nat) : Int)).size = 2 ∧ 128 ≤ ((Utf8.encode ((128 + n.val : Nat) : Int)).data.getD 1 0).toNat := by decide +kernel
  have hk := key ⟨(r - 128).toNat, by omega⟩
  have e : ((128 + (r - 128).toNat : Nat) : Int) = r := by omega
  simp only [e] at hk
  generalize Utf8.encode r = x at hk
  obtain ⟨⟨l⟩⟩ := x
  match l, hk with
  | [a, b], hk => exact ⟨a, b, rfl, hk.2⟩
  | [], hk => cases hk.1
  | [_], hk => cases hk.1
  | _ :: _ :: _ :: _, hk => exact absurd hk.1 (by show ¬ _ + 3 = 2; omega)

set_option maxHeartbeats 2000000 in
set_option maxRecDepth 1000000 in
theorem irune_high (r : Int) (w : World) (h0 : 128 ≤ r) (h1 : r < 256) :
    Calls Tryz.prog 160 #[.string ⟨#[45, 95, 46, 43]⟩, .int .i32 r] w fun e w' => e = .returned (.int .i64 (-1)) ∧ K0 w w' := by
  obtain ⟨a, b, he, hb⟩ := enc_two h0 h1
  have hv : Lib.validRune r = true := by unfold Lib.validRune; simp; omega
  go_enter Tryz.func160, Tryz.ntmps160
  go_wp2_with (go_at_call 168; refine (Tryz.utf8_ValidRune r _).mono ?_; rintro e w' ⟨rfl, rfl⟩; rw [hv])
  have t21 := Tryz.underlying21; have a21 := Tryz.isAgg21; have z21 := Tryz.sizeOf21; have v21 := Tryz.zeroValue21
  have t9 := Tryz.underlying9; have a9 := Tryz.isAgg9; have z9 := Tryz.sizeOf9; have v9 := Tryz.zeroValue9
  have u21 := run_underlying t21; have u9 := run_underlying t9
  have hc : ∀ w : World, (convert 21 9 (.int .i32 r)).run Tryz.prog w = .ok (.string ⟨#[a, b]⟩) w := fun w => by rw [run_convert_int_string w 21 9 .i32 r (by rw [t21]; rfl) t9, he]
  refine wp_scope_straight ?_
  go_wp2
  go_rounds 1
  refine wp_scope_straight ?_
  have mixed : Tryz.prog.follows .mixedOrders = true := by kernel_rfl
  have t5 := Tryz.underlying5; have a5 := Tryz.isAgg5; have z5 := Tryz.sizeOf5; have v5 := Tryz.zeroValue5
  have t3 := Tryz.underlying3; have a3 := Tryz.isAgg3; have z3 := Tryz.sizeOf3; have v3 := Tryz.zeroValue3
  have t4 := Tryz.underlying4; have a4 := Tryz.isAgg4; have z4 := Tryz.sizeOf4; have v4 := Tryz.zeroValue4
  go_wp2
  go_region_o
  all_goals go_wp2
  rotate_left
  · exfalso
    rename_i hq _ _
    have hq : (((95 : UInt8).toNat : Int) != (b.toNat : Int)) = false := hq
    simp at hq
    omega
  have hi : Lib.indexByte [46, 43] b = -1 := by
    have h46 : (46 == b) = false := by simp; rintro rfl; exact absurd hb (by decide)
    have h43 : (43 == b) = false := by simp; rintro rfl; exact absurd hb (by decide)
    simp [Lib.indexByte, h46, h43]
  have hw2 : IntKind.i64.wrap 2 = 2 := by decide
  go_region_with (go_at_call 105; refine (Tryz.strings_IndexByte _ _ _).mono ?_; rintro e w1 ⟨rfl, rfl⟩)
  go_wp2
  · simp only [Exit.noGoto, Exit.inBlock, Exit.then]
    go_ret
    exact ⟨rfl, ⟨rfl, rfl, rfl, Nat.le_refl _, fun _ _ _ => rfl⟩⟩
  · exfalso
    rename_i hq _ _
    have hq : 0 ≤ Lib.indexByte [46, 43] b := hq
    rw [hi] at hq
    omega

end Go.Proofs.YtmlmdljnfokebaaGreatDoor

/- Chapter 49: the contracts of isUser, String, Check, clone, Equal. Texts have at most 2^30 bytes. -/
namespace Go.Proofs.YtmlmdljnfokebaaGreatDoor
open Go.RowKit

/-! ### Users -/
theorem low_runes : ∀ n : Fin 128, decide (0 ≤ Lib.indexByte [45, 95, 46, 43] n.val.toUInt8) = (n.val == 45 || n.val == 95 || n.val == 46 || n.val == 43) := by decide +kernel
theorem crune_any (c : Int) (w : World) (h0 : 0 ≤ c) (h1 : c ≤ 255) :
    Calls Tryz.prog 147 #[.string ⟨#[45, 95, 46, 43]⟩, .int .i32 c] w fun e w' => e = .returned (.bool (c == 45 || c == 95 || c == 46 || c == 43)) ∧ K0 w w' := by
  by_cases h : c < 128
  · refine (Tryz.strings_ContainsRune_ascii ⟨#[45, 95, 46, 43]⟩ c w h0 h).mono fun e w1 ⟨he, hw⟩ => ?_
    subst hw
    refine ⟨?_, .refl _ _⟩
    have hl := low_runes ⟨c.toNat, by omega⟩
    have e45 : (c.toNat == 45) = (c == 45) := by rw [Bool.eq_iff_iff]; simp; omega
    have e95 : (c.toNat == 95) = (c == 95) := by rw [Bool.eq_iff_iff]; simp; omega
    have e46 : (c.toNat == 46) = (c == 46) := by rw [Bool.eq_iff_iff]; simp; omega
    have e43 : (c.toNat == 43) = (c == 43) := by rw [Bool.eq_iff_iff]; simp; omega
    simp only [e45, e95, e46, e43] at hl
    rw [he, ← hl]
  · refine vc_crune ⟨#[45, 95, 46, 43]⟩ c w _ ⟨(irune_high c w (by omega) (by omega)).mono fun e w1 ⟨he, k1⟩ => ⟨_, he, .of_k0 k1, ?_, k1⟩⟩
    have h45 : (c == 45) = false := by simp; omega
    have h95 : (c == 95) = false := by simp; omega
    have h46 : (c == 46) = false := by simp; omega
    have h43 : (c == 43) = false := by simp; omega
    rw [h45, h95, h46, h43]
    rfl
theorem user_any (s : ByteArray) (w : World) :
    Calls Tryz.prog 114 #[.string s] w fun e w' => e = .returned (.bool (userB s)) ∧ K0 w w' := by
  refine vc_muser s w _ (bsp_intro (fun h => ?_) (fun h => ?_))
  · have : userB s = false := by unfold userB; simp at h; simp; omega
    rw [this]; exact ⟨rfl, .refl _ _⟩
  have h40 : s.size ≤ 40 := by simp at h; omega
  have eU : userB s = (List.range s.size).all fun i => userC (at8 s i) := by unfold userB; simp [h40]
  refine ⟨fun vs w' => ∃ i : Nat, vs = [.int .i64 (i : Int)] ∧ i ≤ s.size ∧ (∀ j, j < i → userC (at8 s j) = true) ∧ K0 w w',
    fun vs _ => (match vs with | .int _ x :: _ => s.size - x.toNat | _ => 0), ⟨0, rfl, by omega, (fun j h => by omega), .refl _ _⟩, ?_⟩
  rintro x w1 ⟨i, hv, hi, hall, k1⟩
  simp only [List.cons.injEq, Value.int.injEq, true_and, and_true] at hv
  subst hv
  refine bsp_intro (fun hlt => ?_) (fun hge => ?_)
  · have hlt : i < s.size := by simp at hlt; omega
    rw [Int.toNat_natCast]
    have hb := at8_bd s i
    have next : userC (at8 s i) = true → ∀ j, j < i + 1 → userC (at8 s j) = true := fun h j hj => by
      by_cases e : j = i
      · rw [e]; exact h
      · exact hall j (by omega)
    refine ⟨⟨by omega, by omega⟩, gimp_intro fun _ => ⟨by omega, by omega⟩, gimp_intro fun _ => ⟨by omega, by omega⟩, bsp_intro (fun hg => ?_) (fun hg => ?_)⟩
    · simp only [Bool.and_eq_true, Bool.not_eq_true'] at hg
      rw [show IntKind.i32.wrap (at8 s i) = at8 s i from IntWalk.i32_in _ ⟨by omega, by omega⟩]
      have eC : userC (at8 s i) = (at8 s i == 45 || at8 s i == 95 || at8 s i == 46 || at8 s i == 43) := by unfold userC; rw [hg.1, hg.2]; simp
      refine ⟨(crune_any (at8 s i) w1 hb.1 hb.2).mono fun e w2 ⟨he, k2⟩ => ⟨_, he, .of_k0 k2, bsp_intro (fun hn => ?_) (fun hn => ?_)⟩⟩
      · rw [← eC] at hn
        have hn : userC (at8 s i) = false := by simpa using hn
        have : userB s = false := by
          rw [eU, List.all_eq_false]
          exact ⟨i, List.mem_range.2 hlt, by simp [hn]⟩
        rw [this]; exact ⟨rfl, k1.trans k2⟩
      · rw [← eC] at hn
        have hn : userC (at8 s i) = true := by simpa using hn
        exact ⟨⟨i + 1, by rw [inc64 (by omega)], hlt, next hn, k1.trans k2⟩, by rw [inc64 (by omega)]; simp only [Int.toNat_natCast]; omega⟩
    · have hC : userC (at8 s i) = true := by
        unfold userC
        cases hl : lowerB (at8 s i) with
        | true => rfl
        | false =>
          rw [hl] at hg
          have : digitB (at8 s i) = true := by simpa using hg
          rw [this]; rfl
      exact ⟨.refl _ _, ⟨i + 1, by rw [inc64 (by omega)], hlt, next hC, k1⟩, by rw [inc64 (by omega)]; simp only [Int.toNat_natCast]; omega⟩
  · have hi : i = s.size := by simp at hge; omega
    subst hi
    have : userB s = true := by rw [eU]; exact all_at.2 fun j hj => hall j hj
    rw [this]; exact ⟨rfl, k1⟩

/-! ### Messages -/
abbrev mxA (m : Ml) (p : Option Addr) (c : Nat) : Value := .agg #[.string m.fu, .string m.fs, .string m.tu, .string m.ts, .int .i64 m.n, .int .i64 m.d, .string m.sj, .slice p m.hops.length c, .string m.bd]
theorem siteK_any (s : ByteArray) (w : World) : Calls Tryz.prog 49 #[.string s] w fun e w' => e = .returned (.tuple #[.int .i64 (siteS s).1, .int .i64 (siteS s).2]) ∧ K0 w w' :=
  (site_any s w).mono fun e w' ⟨he, hw⟩ => ⟨he, by rw [hw]; exact .refl _ _⟩
theorem mstr_any (a b : ByteArray) (w : World) (ha : a.size ≤ 1073741824) (hb : b.size ≤ 1073741824) :
    Calls Tryz.prog 40 #[.agg #[.string a, .string b]] w fun e w' => e = .returned (.string (a ++ ⟨#[64]⟩ ++ b)) ∧ K0 w w' := by
  refine vc_mstr a b w _ fun n => ⟨nneg (by rw [size_one]; omega), nneg (by rw [ByteArray.size_append, size_one]; omega), fun W hW => ⟨rfl, hW.kk rfl⟩⟩
theorem env_any (m : Ml) (p : Option Addr) (c : Nat) (w : World) :
    Calls Tryz.prog 77 #[mxA m p c] w fun e w' => e = .returned (.int .i64 (envE m)) ∧ K0 w w' := by
  refine vc_menv m.fu m.fs m.tu m.ts m.n m.d m.sj p m.hops.length c m.bd w _ (fun n1 W hW => ?_)
  have kW : K0 w W := hW.kk rfl
  have hc := hW.cells 0 rfl
  unfold envE
  refine ⟨(user_any m.fu W).mono fun e w1 ⟨he, k1⟩ => ⟨_, he, .of_k0 k1, bsp_intro (fun h => ?_) (fun h => ?_)⟩⟩
  · rw [if_pos (by simpa using h)]; exact ⟨rfl, kW.trans k1⟩
  rw [if_neg (by simpa using h)]
  refine ⟨(siteK_any m.fs w1).mono fun e w2 ⟨he, k2⟩ => ⟨_, _, he, .of_k0 k2, bsp_intro (fun h => ?_) (fun h => ?_)⟩⟩
  · rw [if_pos (show siteE m.fs ≠ 0 by simpa [siteE] using h)]; exact ⟨rfl, (kW.trans k1).trans k2⟩
  rw [if_neg (show ¬ siteE m.fs ≠ 0 by simpa [siteE] using h)]
  refine ⟨(user_any m.tu w2).mono fun e w3 ⟨he, k3⟩ => ⟨_, he, .of_k0 k3, m.tu, gimp_intro fun _ => cell_at ((k1.trans (k2.trans k3)).blk hc (fun h => h)) rfl, ?_⟩⟩
  have k03 := kW.trans (k1.trans (k2.trans k3))
  rw [toList_nil]
  refine bsp_intro (fun h => ?_) (fun h => ?_)
  · rw [if_pos (by simpa using h)]; exact ⟨rfl, k03⟩
  rw [if_neg (by simpa using h)]
  refine ⟨(siteK_any m.ts w3).mono fun e w4 ⟨he, k4⟩ => ⟨_, _, he, .of_k0 k4, bsp_intro (fun h => ?_) (fun h => ?_)⟩⟩
  · rw [if_pos (show siteE m.ts ≠ 0 by simpa [siteE] using h)]; exact ⟨rfl, k03.trans k4⟩
  rw [if_neg (show ¬ siteE m.ts ≠ 0 by simpa [siteE] using h)]
  have k04 := k03.trans k4
  refine ⟨m.n, gimp_intro fun _ => cell_at ((k1.trans ((k2.trans k3).trans k4)).blk hc (fun h => h)) rfl, bsp_intro (fun h => ?_) (fun h => ?_)⟩
  · rw [if_pos (by simpa using h)]; exact ⟨rfl, k04⟩
  rw [if_neg (by simp at h; omega)]
  refine bsp_intro (fun h => ?_) (fun h => ?_)
  · rw [if_pos (by simpa using h)]; exact ⟨rfl, k04⟩
  · rw [if_neg (by simpa using h)]; exact ⟨rfl, k04⟩

theorem hopsE_step {m : List ByteArray} {i : Nat} {h : ByteArray} (hh : m[i]? = some h) : hopsE (m.take i) (m.drop i) = if siteE h ≠ 0 then siteE h else if Lib.containsS (m.take i) h = true then 24 else hopsE (m.take (i + 1)) (m.drop (i + 1)) := by
  obtain ⟨hi, e⟩ := List.getElem?_eq_some_iff.1 hh
  rw [List.drop_eq_getElem_cons hi, e, take_snoc hh]
  rfl
theorem contains_any (l : List ByteArray) (i : Nat) (x : ByteArray) (p : Option Addr) (c : Nat) (w : World) (hR : StrP w p l) (hi : i ≤ l.length) (hl : l.length ≤ 4611686018427387904) :
    Calls Tryz.prog 80 #[.slice p i c, .string x] w fun e w' => e = .returned (.bool (Lib.containsS (l.take i) x)) ∧ K0 w w' := by
  rcases Nat.eq_zero_or_pos i with h0 | h0
  · subst h0
    exact (Tryz.slices_Contains_string_empty p c x w).mono fun e w' ⟨he, hw⟩ => ⟨by rw [he, List.take_zero]; rfl, by rw [hw]; exact .refl _ _⟩
  · obtain ⟨z, b, o, hz, hp, _⟩ := str_get hR (k := 0) (by omega)
    rw [hp]
    refine (Tryz.slices_Contains_string b o i c l x w hi (by omega) (fun j hj => ?_)).mono fun e w' ⟨he, hw⟩ => ⟨he, by rw [hw]; exact .refl _ _⟩
    obtain ⟨z', b', o', hz', hp', hc'⟩ := str_get hR hj
    rw [hp] at hp'
    simp only [Option.some.injEq, Addr.mk.injEq, and_true] at hp'
    obtain ⟨rfl, rfl⟩ := hp'
    rw [hc', List.getD_eq_getElem?_getD, hz']
    rfl
/-- The message is not too great. -/
def MlOK (m : Ml) : Prop := m.fu.size ≤ 1073741824 ∧ m.fs.size ≤ 1073741824 ∧ m.tu.size ≤ 1073741824 ∧ m.ts.size ≤ 1073741824 ∧ m.sj.size ≤ 4611686018427387904 ∧ m.hops.length ≤ 4611686018427387904 ∧ m.bd.size ≤ 4611686018427387904
theorem mcheck_any (m : Ml) (p : Option Addr) (c : Nat) (w : World) (hR : StrP w p m.hops) (hc : m.hops.length ≤ c) (hb : m.bd.size ≤ 4611686018427387904) (hhl : m.hops.length ≤ 4611686018427387904) :
    Calls Tryz.prog 38 #[mxA m p c] w fun e w' => e = .returned (.int .i64 (chkM m)) ∧ K0 w w' := by
  refine vc_mcheck m.fu m.fs m.tu m.ts m.n m.d m.sj p m.hops.length c m.bd w _ (fun n1 W hW => ?_)
  have kW : K0 w W := hW.kk rfl
  have hb0 := hW.cells 0 rfl
  unfold chkM
  refine ⟨(env_any m p c W).mono fun e w1 ⟨he, k1⟩ => ⟨_, he, .of_k0 k1, bsp_intro (fun h => ?_) (fun h => ?_)⟩⟩
  · rw [if_pos (by simpa using h)]; exact ⟨rfl, kW.trans k1⟩
  rw [if_neg (by simpa using h)]
  have k01 := kW.trans k1
  refine bsp_intro (fun h => ?_) (fun h => ?_)
  · have h : 200 < m.sj.size := by simp at h; omega
    have : subjE m.sj = 5 := by unfold subjE; rw [if_pos h]
    rw [this, if_pos (by decide)]; exact ⟨rfl, k01⟩
  have h200 : ¬ 200 < m.sj.size := by simp at h; omega
  refine ⟨fun vs w' => ∃ i : Nat, vs = [.int .i64 (i : Int)] ∧ i ≤ m.sj.size ∧ (∀ j, j < i → prtB (at8 m.sj j) = true) ∧ K0 w1 w',
    fun vs _ => (match vs with | .int _ x :: _ => m.sj.size - x.toNat | _ => 0), ⟨0, rfl, by omega, (fun j h => by omega), .refl _ _⟩, ?_⟩
  rintro x w2 ⟨i, hv, hi, hall, k2⟩ _
  simp only [List.cons.injEq, Value.int.injEq, true_and, and_true] at hv
  subst hv
  refine bsp_intro (fun hlt => ?_) (fun hge => ?_)
  · have hlt : i < m.sj.size := by simp at hlt; omega
    rw [Int.toNat_natCast]
    refine ⟨⟨by omega, by omega⟩, bsp_intro (fun h => ?_) (fun h => ?_)⟩
    · have hp : prtB (at8 m.sj i) = false := by unfold prtB; simp only [Bool.and_eq_true, Bool.not_eq_true', bne_iff_ne] at h; simp [h.1, h.2]
      have : prtS m.sj = false := by
        unfold prtS; rw [List.all_eq_false]; exact ⟨i, List.mem_range.2 hlt, by simp [hp]⟩
      have : subjE m.sj = 6 := by unfold subjE; rw [if_neg h200, if_pos this]
      rw [this, if_pos (by decide)]; exact ⟨rfl, k01.trans k2⟩
    · have hp : prtB (at8 m.sj i) = true := by
        unfold prtB
        cases hvv : visB (at8 m.sj i) with
        | true => rfl
        | false => rw [hvv] at h; simpa using h
      refine ⟨⟨i + 1, by rw [inc64 (by omega)], hlt, fun j hj => ?_, k2⟩, by rw [inc64 (by omega)]; simp only [Int.toNat_natCast]; omega⟩
      by_cases e : j = i
      · rw [e]; exact hp
      · exact hall j (by omega)
  have hi : i = m.sj.size := by simp at hge; omega
  subst hi
  have hprt : ¬ prtS m.sj = false := by
    have : prtS m.sj = true := all_at.2 fun j hj => hall j hj
    rw [this]; decide
  intro W3 hW3
  have k3 : K0 w2 W3 := hW3.kk rfl
  have hc3 : W3.heap[n1]? = _ := hW3.cells 0 rfl
  have k03 := (k01.trans k2).trans k3
  refine ⟨fun wx => K0 W3 wx, .refl _ _, m.sj, fun wx k => cell_at (k.blk hc3 (fun h => h)) rfl, m.sj, fun wx k => cell_at (k.blk hc3 (fun h => h)) rfl, ?_⟩
  refine ⟨(squeeze_any m.sj W3 (by omega)).mono fun e w4 ⟨he, k4⟩ => ⟨_, he, k4, .of_k0 k4, bsp_intro (fun h => ?_) (fun h => ?_)⟩⟩
  · have hq : squeeze m.sj ≠ m.sj := fun e => by rw [e] at h; simp at h
    have : subjE m.sj = 3 := by unfold subjE; rw [if_neg h200, if_neg hprt, if_pos hq]
    rw [this, if_pos (by decide)]; exact ⟨rfl, k03.trans k4⟩
  have hq : ¬ squeeze m.sj ≠ m.sj := fun hne => hne (str_eq (by simpa using h))
  have e0 : subjE m.sj = 0 := by unfold subjE; rw [if_neg h200, if_neg hprt, if_neg hq]
  rw [e0, if_neg (by decide)]
  have k04 := k03.trans k4
  refine bsp_intro (fun h => ?_) (fun h => ?_)
  · rw [if_pos (by simp at h; omega)]; exact ⟨rfl, k04⟩
  rw [if_neg (by simp at h; omega)]
  have h16 : m.hops.length ≤ 16 := by simp at h; omega
  generalize hE : hopsE [] m.hops = E
  refine ⟨fun vs w' => ∃ i : Nat, vs = [.int .i64 (i : Int)] ∧ i ≤ m.hops.length ∧ hopsE (m.hops.take i) (m.hops.drop i) = E ∧ K0 w w',
    fun vs _ => (match vs with | .int _ x :: _ => m.hops.length - x.toNat | _ => 0), ⟨0, rfl, by omega, hE, k04⟩, ?_⟩
  rintro x w5 ⟨i, hv, hi, hEi, k5⟩ _
  simp only [List.cons.injEq, Value.int.injEq, true_and, and_true] at hv
  subst hv
  refine bsp_intro (fun hlt => ?_) (fun hge => ?_)
  · have hlt : i < m.hops.length := by simp at hlt; omega
    obtain ⟨h, b, o, hh, hp, hcell⟩ := str_get (hR.k0 k5) hlt
    rw [hopsE_step hh] at hEi
    rw [Int.toNat_natCast]
    refine nn_is hp ⟨⟨by omega, by omega⟩, h, hcell, ?_⟩
    refine ⟨(siteK_any h w5).mono fun e w6 ⟨he, k6⟩ => ⟨_, _, he, .of_k0 k6, bsp_intro (fun hs => ?_) (fun hs => ?_)⟩⟩
    · have hs : siteE h ≠ 0 := by simpa [siteE] using hs
      rw [if_pos hs] at hEi
      subst hEi
      rw [if_pos hs]; exact ⟨rfl, k5.trans k6⟩
    have hs : ¬ siteE h ≠ 0 := by simpa [siteE] using hs
    rw [if_neg hs] at hEi
    refine ⟨⟨by omega, by omega⟩, ⟨(contains_any m.hops i h p c w6 (hR.k0 (k5.trans k6)) (by omega) hhl).mono fun e w7 ⟨he, k7⟩ => ⟨_, he, .of_k0 k7, bsp_intro (fun hq => ?_) (fun hq => ?_)⟩⟩⟩
    · rw [if_pos hq] at hEi
      subst hEi
      rw [if_pos (by decide)]; exact ⟨rfl, (k5.trans k6).trans k7⟩
    · rw [if_neg (by rw [hq]; decide)] at hEi
      exact ⟨⟨i + 1, by rw [inc64 (by omega)], hlt, hEi, (k5.trans k6).trans k7⟩, by rw [inc64 (by omega)]; simp only [Int.toNat_natCast]; omega⟩
  · have hi : i = m.hops.length := by simp at hge; omega
    subst hi
    rw [List.drop_length] at hEi
    have hE0 : E = 0 := by rw [← hEi]; rfl
    rw [hE0, if_neg (by decide)]
    refine bsp_intro (fun h => ?_) (fun h => ?_)
    · rw [if_pos (by simp at h; omega)]; exact ⟨rfl, k5⟩
    · rw [if_neg (by simp at h; omega)]; exact ⟨rfl, k5⟩

end Go.Proofs.YtmlmdljnfokebaaGreatDoor

/- The formulas of functions by the symbolic evaluator, and that each gives the call's contract. Written by a program (gen.py). No condition. -/
namespace Go.Proofs.YtmlmdljnfokebaaGreatDoor
set_option maxRecDepth 100000
set_option linter.unusedVariables false

def VC_sequal (p : Option Addr) (n : Nat) (c : Nat) (q : Option Addr) (k : Nat) (d : Nat) (w : World) (R : Ending → World → Prop) : Prop :=
 bsp ((↑n : Int) != (↑k : Int)) (R (Ending.returned (Value.bool false)) w)
 (∃ (I : List Value → World → Prop),
 ∃ (m : List Value → World → Nat),
 I [Value.int IntKind.i64 0] w ∧
 ∀ (x : Int) (w' : World),
 I [Value.int IntKind.i64 x] w' →
 bsp (decide (x < (↑n : Int)))
 (nn true p fun (b o : Nat) =>
 (0 ≤ x ∧ x < (↑n : Int)) ∧
 ∃ (x_1 : ByteArray),
 (∀ (W : World), Loc w.heap.size [] w' W → W.cell? (Addr.mk b (o + x.toNat) none) = some (Value.string x_1)) ∧
 nn true q fun (b o : Nat) =>
 (0 ≤ x ∧ x < (↑k : Int)) ∧
 ∃ (x_2 : ByteArray),
 (∀ (W : World),
 Loc w.heap.size [] w' W → W.cell? (Addr.mk b (o + x.toNat) none) = some (Value.string x_2)) ∧
 bsp (!x_1.toList == x_2.toList)
 (∀ (W : World), Loc w.heap.size [] w' W → R (Ending.returned (Value.bool false)) W)
 (∀ (W : World),
 Loc w.heap.size [] w' W →
 I [Value.int IntKind.i64 (IntKind.i64.wrap (x + 1))] W ∧
 m [Value.int IntKind.i64 (IntKind.i64.wrap (x + 1))] W < m [Value.int IntKind.i64 x] w'))
 (R (Ending.returned (Value.bool true)) w'))
theorem vc_sequal (p : Option Addr) (n : Nat) (c : Nat) (q : Option Addr) (k : Nat) (d : Nat) (w : World) (R : Ending → World → Prop) (h : VC_sequal p n c q k d w R) : Calls Tryz.prog 48 ([Value.slice
    p n c,
  Value.slice q k d] : List Value).toArray w R := by
  have e : execR2 { P := Tryz.prog, loops := [(4, [(13, Ck.int IntKind.i64)])], pur := purM, tails := [], joins := [], boxes := [] } Tryz.f48.results.toList R (Tryz.f48.body.getD .skip) (initF [Value.slice
    p n c,
  Value.slice q k
    d] (Tryz.f48.ntmps - ([Value.slice p n c,
  Value.slice q k d] : List Value).length)) w = VC_sequal p n c q k d w R := by kernel_rfl
  have hb : Tryz.f48.body = some (Tryz.f48.body.getD .skip) := by kernel_rfl
  exact calls_of_exec2' (P := Tryz.prog) (fn := Tryz.f48) (c := Tryz.f48.body.getD .skip) (args := [Value.slice p n c,
  Value.slice q k d]) (w := w) (R := R) purM_ok Tryz.func48 hb e h

end Go.Proofs.YtmlmdljnfokebaaGreatDoor

/- Chapter 49: the contracts of clone, Equal, the reference's Same. Lists have at most 2^40 strings. -/
namespace Go.Proofs.YtmlmdljnfokebaaGreatDoor
open Go.RowKit Go.Maps

/-! ### Copies -/
theorem own_slice {w : World} {base : Nat} {e : TypeId} {size : Nat} {v : Value} {n : Nat} {xs : List Value} (h : w.ownsRow base e size v n xs) : ∃ p c, v = .slice p n c := by
  rcases h.2 with ⟨hv, h0⟩ | ⟨g, cap, cur, hv, _⟩
  · exact ⟨none, 0, by rw [hv, h0]⟩
  · exact ⟨_, _, hv⟩
theorem strP_own {w : World} {base : Nat} {e : TypeId} {p : Option Addr} {n c : Nat} {l : List ByteArray} (ho : w.ownsRow base e 1 (.slice p n c) n (l.map .string)) : StrP w p l := fun k z hk => by
  have hl : l.length = n := by have := ho.1; simpa using this
  obtain ⟨g, v, h1, h2, h3⟩ := own_cell ho (k := k) (by rw [← hl]; exact (List.getElem?_eq_some_iff.1 hk).1)
  rw [List.getElem?_map, hk] at h2
  simp at h2
  subst h2
  exact ⟨g, 0, h1, h3⟩
theorem sclone_any (l : List ByteArray) (p : Option Addr) (c : Nat) (w : World) (hR : StrP w p l) (hl : l.length * 16 ≤ 140737488355328) :
    Calls Tryz.prog 95 #[.slice p l.length c] w fun e w' => (∃ (p' : Option Addr) (c' : Nat), e = .returned (.slice p' l.length c') ∧ w'.ownsRow w.heap.size 9 1 (.slice p' l.length c') l.length (l.map .string)) ∧ K0 w w' := by
  cases p with
  | none =>
    have h0 : l = [] := by
      cases l with
      | nil => rfl
      | cons x r => obtain ⟨_, _, h, _⟩ := hR 0 x rfl; cases h
    subst h0
    exact (Tryz.slices_Clone_string_nil 0 c w).mono fun e w' ⟨he, hw⟩ => by subst hw; exact ⟨⟨none, 0, he, World.ownsRow_nil _ _ _ _⟩, .refl _ _⟩
  | some a =>
    rcases Nat.eq_zero_or_pos l.length with h0 | h0
    · have : l = [] := List.eq_nil_of_length_eq_zero h0
      subst this
      exact (Tryz.slices_Clone_string_zero a c w).mono fun e w' ⟨v, he, ho, _, hb⟩ => by
        obtain ⟨p', c', rfl⟩ := own_slice ho
        exact ⟨⟨p', c', he, ho⟩, .of_below hb⟩
    · obtain ⟨z, b, o, hz, hp, _⟩ := str_get hR (k := 0) (by omega)
      simp only [Option.some.injEq] at hp
      subst hp
      refine (Tryz.slices_Clone_string b o l.length c l w (Nat.le_refl _) hl (fun j hj => ?_)).mono fun e w' ⟨v, he, ho, _, hb⟩ => ?_
      · obtain ⟨z', b', o', hz', hp', hc'⟩ := str_get hR hj
        simp only [Option.some.injEq, Addr.mk.injEq, and_true] at hp'
        obtain ⟨rfl, rfl⟩ := hp'
        rw [hc', List.getD_eq_getElem?_getD, hz']
        rfl
      · rw [List.take_length] at ho
        obtain ⟨p', c', rfl⟩ := own_slice ho
        exact ⟨⟨p', c', he, ho⟩, .of_below hb⟩
theorem clone_any (m : Ml) (p : Option Addr) (c : Nat) (w : World) (hR : StrP w p m.hops) (hl : m.hops.length * 16 ≤ 140737488355328) :
    Calls Tryz.prog 53 #[mxA m p c] w fun e w' => (∃ (p' : Option Addr) (c' : Nat), e = .returned (mxA m p' c') ∧ w'.ownsRow w.heap.size 9 1 (.slice p' m.hops.length c') m.hops.length (m.hops.map .string)) ∧ K0 w w' := by
  refine vc_mclone m.fu m.fs m.tu m.ts m.n m.d m.sj p m.hops.length c m.bd w _ (fun n1 n2 W hW => ?_)
  have kW : K0 w W := hW.kk rfl
  refine ⟨(sclone_any m.hops p c W (hR.k0 kW) hl).mono fun e w1 ⟨⟨p', c', he, ho⟩, k1⟩ => ⟨_, _, _, he, .of_k0 k1, fun W2 hW2 => ?_⟩⟩
  refine ⟨⟨p', c', rfl, ?_⟩, hW2.k0 (kW.trans k1)⟩
  have hb0 := hW2.fresh
  refine own_base (base := W.heap.size) ?_ kW.size
  have hk2 := hW2.kp
  refine owns_kp ho hk2 (fun k hk ⟨x, hx, h3, h4⟩ => ?_)
  have h1 := own_ge ho hk
  have h2 := own_lt ho hk
  simp only [List.mem_cons, List.not_mem_nil, or_false] at hx
  have b1 := block_lt (hW.cells 0 rfl)
  have b2 := block_lt (hW.cells 1 rfl)
  rcases hx with rfl | rfl
  · have e : n2 = k := by first | exact h4 | exact h4.symm | exact h3 | exact h3.symm | exact h4.1 | exact h4.1.symm
    simp only at b1; omega
  · have e : n1 = k := by first | exact h4 | exact h4.symm | exact h3 | exact h3.symm | exact h4.1 | exact h4.1.symm
    simp only at b2; omega

/-! ### Equality -/
theorem sequal_any (a b : List ByteArray) (p : Option Addr) (c : Nat) (q : Option Addr) (d : Nat) (w : World) (hp : StrP w p a) (hq : StrP w q b) (hl : a.length ≤ 1099511627776) :
    Calls Tryz.prog 48 #[.slice p a.length c, .slice q b.length d] w fun e w' => e = .returned (.bool (decide (a = b))) ∧ K0 w w' := by
  refine vc_sequal p a.length c q b.length d w _ (bsp_intro (fun h => ?_) (fun h => ?_))
  · have : ¬ a = b := fun e => by rw [e] at h; simp at h
    rw [decide_eq_false this]; exact ⟨rfl, .refl _ _⟩
  have hn : a.length = b.length := by simp at h; omega
  refine ⟨fun vs w' => ∃ i : Nat, vs = [.int .i64 (i : Int)] ∧ i ≤ a.length ∧ a.take i = b.take i ∧ K0 w w',
    fun vs _ => (match vs with | .int _ x :: _ => a.length - x.toNat | _ => 0), ⟨0, rfl, by omega, by simp, .refl _ _⟩, ?_⟩
  rintro x w1 ⟨i, hv, hi, ht, k1⟩
  simp only [List.cons.injEq, Value.int.injEq, true_and, and_true] at hv
  subst hv
  refine bsp_intro (fun hlt => ?_) (fun hge => ?_)
  · have hlt : i < a.length := by simp at hlt; omega
    obtain ⟨z, b1, o1, hz, hp1, hc1⟩ := str_get (hp.k0 k1) hlt
    obtain ⟨y, b2, o2, hy, hp2, hc2⟩ := str_get (hq.k0 k1) (k := i) (by omega)
    rw [Int.toNat_natCast]
    refine nn_is hp1 ⟨⟨by omega, by omega⟩, z, fun W hW => (hW.kk rfl : K0 w1 W).cell' hc1 (fun h => h), nn_is hp2 ⟨⟨by omega, by omega⟩, y, fun W hW => (hW.kk rfl : K0 w1 W).cell' hc2 (fun h => h), bsp_intro (fun hne => fun W hW => ?_) (fun heq => fun W hW => ?_)⟩⟩
    · have : ¬ a = b := fun e => by
        rw [e, hy] at hz
        cases hz
        simp at hne
      rw [decide_eq_false this]; exact ⟨rfl, k1.trans (hW.kk rfl)⟩
    · have e : z = y := str_eq (by simpa using heq)
      refine ⟨⟨i + 1, by rw [inc64 (by omega)], hlt, ?_, k1.trans (hW.kk rfl)⟩, by rw [inc64 (by omega)]; simp only [Int.toNat_natCast]; omega⟩
      rw [take_snoc hz, take_snoc hy, ht, e]
  · have hi : i = a.length := by simp at hge; omega
    subst hi
    rw [List.take_length, List.take_of_length_le (by omega)] at ht
    rw [decide_eq_true ht]; exact ⟨rfl, k1⟩
theorem r1same_any (a b : List ByteArray) (p : Option Addr) (c : Nat) (q : Option Addr) (d : Nat) (w : World) (hp : StrP w p a) (hq : StrP w q b) (hl : a.length ≤ 1099511627776) :
    Calls Tryz.prog 29 #[.slice p a.length c, .slice q b.length d] w fun e w' => e = .returned (.bool (decide (a = b))) ∧ K0 w w' := by
  refine vc_r1same p a.length c q b.length d w _ (bsp_intro (fun h => ?_) (fun h => ?_))
  · have : ¬ a = b := fun e => by rw [e] at h; simp at h
    rw [decide_eq_false this]; exact ⟨rfl, .refl _ _⟩
  have hn : a.length = b.length := by simp at h; omega
  refine ⟨fun vs w' => ∃ i : Nat, vs = [.int .i64 (i : Int)] ∧ i ≤ a.length ∧ a.take i = b.take i ∧ K0 w w',
    fun vs _ => (match vs with | .int _ x :: _ => a.length - x.toNat | _ => 0), ⟨0, rfl, by omega, by simp, .refl _ _⟩, ?_⟩
  rintro x w1 ⟨i, hv, hi, ht, k1⟩
  simp only [List.cons.injEq, Value.int.injEq, true_and, and_true] at hv
  subst hv
  refine bsp_intro (fun hlt => ?_) (fun hge => ?_)
  · have hlt : i < a.length := by simp at hlt; omega
    obtain ⟨z, b1, o1, hz, hp1, hc1⟩ := str_get (hp.k0 k1) hlt
    obtain ⟨y, b2, o2, hy, hp2, hc2⟩ := str_get (hq.k0 k1) (k := i) (by omega)
    rw [Int.toNat_natCast]
    refine nn_is hp1 ⟨⟨by omega, by omega⟩, z, fun W hW => (hW.kk rfl : K0 w1 W).cell' hc1 (fun h => h), nn_is hp2 ⟨⟨by omega, by omega⟩, y, fun W hW => (hW.kk rfl : K0 w1 W).cell' hc2 (fun h => h), bsp_intro (fun hne => fun W hW => ?_) (fun heq => fun W hW => ?_)⟩⟩
    · have : ¬ a = b := fun e => by
        rw [e, hy] at hz
        cases hz
        simp at hne
      rw [decide_eq_false this]; exact ⟨rfl, k1.trans (hW.kk rfl)⟩
    · have e : z = y := str_eq (by simpa using heq)
      refine ⟨⟨i + 1, by rw [inc64 (by omega)], hlt, ?_, k1.trans (hW.kk rfl)⟩, by rw [inc64 (by omega)]; simp only [Int.toNat_natCast]; omega⟩
      rw [take_snoc hz, take_snoc hy, ht, e]
  · have hi : i = a.length := by simp at hge; omega
    subst hi
    rw [List.take_length, List.take_of_length_le (by omega)] at ht
    rw [decide_eq_true ht]; exact ⟨rfl, k1⟩

theorem adKey (a b : ByteArray) (ha : a.size ≤ 4611686018427387904) (hb : b.size ≤ 4611686018427387904) (D : Nat) : Tryz.prog.keyLits (D + 2) 23 [.string a, .string b] = some [.string a.data.toList, .string b.data.toList] := by
  unfold Program.keyLits
  rw [Tryz.underlying23]
  simp only
  have c0 : Tryz.prog.cellsOf 23 = 2 := by kernel_rfl
  rw [if_pos ⟨by rw [c0]; rfl, by decide +kernel⟩]
  have h1 : ∀ s : ByteArray, s.size ≤ 4611686018427387904 → Tryz.prog.keyLits (D + 1) 9 [.string s] = some [.string s.data.toList] := fun s hs => by
    unfold Program.keyLits
    rw [Tryz.underlying9]
    simp only
    rw [if_pos (by unfold maxLen; omega)]
  have c1 : Tryz.prog.cellsOf 9 = 1 := by kernel_rfl
  simp only [List.mapM_cons, List.mapM_nil, c1]
  have e1 : ([Value.string a, .string b].drop 0).take 1 = [.string a] := rfl
  have e2 : ([Value.string a, .string b].drop 1).take 1 = [.string b] := rfl
  rw [e1, e2, h1 a ha, h1 b hb]
  rfl
theorem adKeyOf (a b : ByteArray) (ha : a.size ≤ 4611686018427387904) (hb : b.size ≤ 4611686018427387904) : keyOf Tryz.prog 23 (.agg #[.string a, .string b]) = some (.string (keyBytes [.string a.data.toList, .string b.data.toList])) := by
  unfold keyOf
  rw [Tryz.underlying23]
  simp only
  have h1 : Tryz.prog.keyType 23 = true := by kernel_rfl
  have hf' : (Value.agg #[.string a, .string b]).formed Tryz.prog 23 = true := by
    unfold Value.formed
    rw [Tryz.underlying23]
    have c0 : Tryz.prog.cellsOf 23 = 2 := by kernel_rfl
    simp only
    rw [c0]; rfl
  rw [h1, hf']
  have h2 := adKey a b ha hb (Tryz.prog.types.size - 1)
  have hsz : 2 ≤ Tryz.prog.types.size := by decide +kernel
  have e2 : Tryz.prog.types.size - 1 + 2 = Tryz.prog.types.size + 1 := by omega
  rw [e2] at h2
  have : (Value.agg #[.string a, .string b]).cells.toList = [.string a, .string b] := by simp [Value.cells]
  rw [this, h2]
  rfl
set_option maxRecDepth 100000 in
theorem adEq (a b c d : ByteArray) (ha : a.size ≤ 4611686018427387904) (hb : b.size ≤ 4611686018427387904) (hc : c.size ≤ 4611686018427387904) (hd : d.size ≤ 4611686018427387904) :
    EqP Tryz.prog 23 (.agg #[.string a, .string b]) (.agg #[.string c, .string d]) (decide (a = c ∧ b = d)) := by
  refine ⟨fun w => ?_, by kernel_rfl, _, _, rfl, rfl⟩
  obtain ⟨r, hr, hi⟩ := run_equal_deep w (m := 3) (by omega) (by kernel_rfl) (by rw [Tryz.underlying23]) (adKeyOf a b ha hb) (adKeyOf c d hc hd)
  rw [hr]
  congr 1
  rw [Bool.eq_iff_iff, hi, decide_eq_true_eq]
  constructor
  · intro h
    have h : keyBytes [.string a.data.toList, .string b.data.toList] = keyBytes [.string c.data.toList, .string d.data.toList] := by simpa using h
    have := keyLits_inj (adKey a b ha hb 0) (adKey c d hc hd 0) h
    simp only [List.cons.injEq, Lit.string.injEq, and_true] at this
    exact ⟨ByteArray.ext (Array.toList_inj.1 this.1), ByteArray.ext (Array.toList_inj.1 this.2)⟩
  · rintro ⟨rfl, rfl⟩; rfl

end Go.Proofs.YtmlmdljnfokebaaGreatDoor

/- The formulas of functions by the symbolic evaluator, and that each gives the call's contract. Written by a program (gen.py). No condition. -/
namespace Go.Proofs.YtmlmdljnfokebaaGreatDoor
set_option maxRecDepth 100000
set_option linter.unusedVariables false

def VC_bidx (p : Option Addr) (n : Nat) (c : Nat) (f : FuncId) (fa : Array Value) (fb : Array Value) (w : World) (R : Ending → World → Prop) : Prop :=
 ∃ (I : List Value → World → Prop),
 ∃ (m : List Value → World → Nat),
 I [Value.int IntKind.i64 0] w ∧
 ∀ (x : Int) (w' : World),
 I [Value.int IntKind.i64 x] w' →
 bsp (decide (x < (↑n : Int)))
 (nn true p fun (b o : Nat) =>
 (0 ≤ x ∧ x < (↑n : Int)) ∧
 ∃ (x_1 : Int),
 w'.cell? (Addr.mk b (o + x.toNat) none) = some (Value.int IntKind.u8 x_1) ∧
 ∃ (f_1 : Nat),
 ∃ (a : Array Value),
 ∃ (b : Array Value),
 Value.func (Fn.func f) fa fb = Value.func (Fn.func f_1) a b ∧
 okFn Tryz.prog f_1 = true ∧
 CallsS Tryz.prog f_1 (appA a [Value.int IntKind.u8 x_1] b) w' fun (e : Ending) (w'_1 : World) =>
 ∃ (x_2 : Bool),
 e = Ending.returned (Value.bool x_2) ∧
 KeptL [] w' w'_1 ∧
 bsp x_2 (R (Ending.returned (Value.int IntKind.i64 x)) w'_1)
 (I [Value.int IntKind.i64 (IntKind.i64.wrap (x + 1))] w'_1 ∧
 m [Value.int IntKind.i64 (IntKind.i64.wrap (x + 1))] w'_1 < m [Value.int IntKind.i64 x] w'))
 (R (Ending.returned (Value.int IntKind.i64 (-1))) w')
theorem vc_bidx (p : Option Addr) (n : Nat) (c : Nat) (f : FuncId) (fa : Array Value) (fb : Array Value) (w : World) (R : Ending → World → Prop) (h : VC_bidx p n c f fa fb w R) : Calls Tryz.prog 109 ([Value.slice
    p n c,
  Value.func (Fn.func f) fa fb] : List Value).toArray w R := by
  have e : execR2 { P := Tryz.prog, loops := [(2, [(8, Ck.int IntKind.i64)])], pur := purM, tails := [], joins := [], boxes := [] } Tryz.f109.results.toList R (Tryz.f109.body.getD .skip) (initF [Value.slice
    p n c,
  Value.func (Fn.func f) fa
    fb] (Tryz.f109.ntmps - ([Value.slice p n c,
  Value.func (Fn.func f) fa fb] : List Value).length)) w = VC_bidx p n c f fa fb w R := by kernel_rfl
  have hb : Tryz.f109.body = some (Tryz.f109.body.getD .skip) := by kernel_rfl
  exact calls_of_exec2' (P := Tryz.prog) (fn := Tryz.f109) (c := Tryz.f109.body.getD .skip) (args := [Value.slice p n c,
  Value.func (Fn.func f) fa fb]) (w := w) (R := R) purM_ok Tryz.func109 hb e h

def VC_bcon (p : Option Addr) (n : Nat) (c : Nat) (f : FuncId) (fa : Array Value) (fb : Array Value) (w : World) (R : Ending → World → Prop) : Prop :=
 CallsS Tryz.prog 109 #[Value.slice p n c, Value.func (Fn.func f) fa fb] w fun (e : Ending) (w' : World) =>
 ∃ (x : Int),
 e = Ending.returned (Value.int IntKind.i64 x) ∧ KeptL [] w w' ∧ R (Ending.returned (Value.bool (decide (x ≥ 0)))) w'
theorem vc_bcon (p : Option Addr) (n : Nat) (c : Nat) (f : FuncId) (fa : Array Value) (fb : Array Value) (w : World) (R : Ending → World → Prop) (h : VC_bcon p n c f fa fb w R) : Calls Tryz.prog 142 ([Value.slice
    p n c,
  Value.func (Fn.func f) fa fb] : List Value).toArray w R := by
  have e : execR2 { P := Tryz.prog, loops := [], pur := purM, tails := [], joins := [], boxes := [] } Tryz.f142.results.toList R (Tryz.f142.body.getD .skip) (initF [Value.slice
    p n c,
  Value.func (Fn.func f) fa
    fb] (Tryz.f142.ntmps - ([Value.slice p n c,
  Value.func (Fn.func f) fa fb] : List Value).length)) w = VC_bcon p n c f fa fb w R := by kernel_rfl
  have hb : Tryz.f142.body = some (Tryz.f142.body.getD .skip) := by kernel_rfl
  exact calls_of_exec2' (P := Tryz.prog) (fn := Tryz.f142) (c := Tryz.f142.body.getD .skip) (args := [Value.slice p n c,
  Value.func (Fn.func f) fa fb]) (w := w) (R := R) purM_ok Tryz.func142 hb e h

def VC_sidx (p : Option Addr) (n : Nat) (c : Nat) (f : FuncId) (fa : Array Value) (fb : Array Value) (w : World) (R : Ending → World → Prop) : Prop :=
 ∃ (I : List Value → World → Prop),
 ∃ (m : List Value → World → Nat),
 I [Value.int IntKind.i64 0] w ∧
 ∀ (x : Int) (w' : World),
 I [Value.int IntKind.i64 x] w' →
 bsp (decide (x < (↑n : Int)))
 (nn true p fun (b o : Nat) =>
 (0 ≤ x ∧ x < (↑n : Int)) ∧
 ∃ (x_1 : ByteArray),
 w'.cell? (Addr.mk b (o + x.toNat) none) = some (Value.string x_1) ∧
 ∃ (f_1 : Nat),
 ∃ (a : Array Value),
 ∃ (b : Array Value),
 Value.func (Fn.func f) fa fb = Value.func (Fn.func f_1) a b ∧
 okFn Tryz.prog f_1 = true ∧
 CallsS Tryz.prog f_1 (appA a [Value.string x_1] b) w' fun (e : Ending) (w'_1 : World) =>
 ∃ (x_2 : Bool),
 e = Ending.returned (Value.bool x_2) ∧
 KeptL [] w' w'_1 ∧
 bsp x_2 (R (Ending.returned (Value.int IntKind.i64 x)) w'_1)
 (I [Value.int IntKind.i64 (IntKind.i64.wrap (x + 1))] w'_1 ∧
 m [Value.int IntKind.i64 (IntKind.i64.wrap (x + 1))] w'_1 < m [Value.int IntKind.i64 x] w'))
 (R (Ending.returned (Value.int IntKind.i64 (-1))) w')
theorem vc_sidx (p : Option Addr) (n : Nat) (c : Nat) (f : FuncId) (fa : Array Value) (fb : Array Value) (w : World) (R : Ending → World → Prop) (h : VC_sidx p n c f fa fb w R) : Calls Tryz.prog 162 ([Value.slice
    p n c,
  Value.func (Fn.func f) fa fb] : List Value).toArray w R := by
  have e : execR2 { P := Tryz.prog, loops := [(2, [(8, Ck.int IntKind.i64)])], pur := purM, tails := [], joins := [], boxes := [] } Tryz.f162.results.toList R (Tryz.f162.body.getD .skip) (initF [Value.slice
    p n c,
  Value.func (Fn.func f) fa
    fb] (Tryz.f162.ntmps - ([Value.slice p n c,
  Value.func (Fn.func f) fa fb] : List Value).length)) w = VC_sidx p n c f fa fb w R := by kernel_rfl
  have hb : Tryz.f162.body = some (Tryz.f162.body.getD .skip) := by kernel_rfl
  exact calls_of_exec2' (P := Tryz.prog) (fn := Tryz.f162) (c := Tryz.f162.body.getD .skip) (args := [Value.slice p n c,
  Value.func (Fn.func f) fa fb]) (w := w) (R := R) purM_ok Tryz.func162 hb e h

def VC_scon (p : Option Addr) (n : Nat) (c : Nat) (f : FuncId) (fa : Array Value) (fb : Array Value) (w : World) (R : Ending → World → Prop) : Prop :=
 CallsS Tryz.prog 162 #[Value.slice p n c, Value.func (Fn.func f) fa fb] w fun (e : Ending) (w' : World) =>
 ∃ (x : Int),
 e = Ending.returned (Value.int IntKind.i64 x) ∧ KeptL [] w w' ∧ R (Ending.returned (Value.bool (decide (x ≥ 0)))) w'
theorem vc_scon (p : Option Addr) (n : Nat) (c : Nat) (f : FuncId) (fa : Array Value) (fb : Array Value) (w : World) (R : Ending → World → Prop) (h : VC_scon p n c f fa fb w R) : Calls Tryz.prog 150 ([Value.slice
    p n c,
  Value.func (Fn.func f) fa fb] : List Value).toArray w R := by
  have e : execR2 { P := Tryz.prog, loops := [], pur := purM, tails := [], joins := [], boxes := [] } Tryz.f150.results.toList R (Tryz.f150.body.getD .skip) (initF [Value.slice
    p n c,
  Value.func (Fn.func f) fa
    fb] (Tryz.f150.ntmps - ([Value.slice p n c,
  Value.func (Fn.func f) fa fb] : List Value).length)) w = VC_scon p n c f fa fb w R := by kernel_rfl
  have hb : Tryz.f150.body = some (Tryz.f150.body.getD .skip) := by kernel_rfl
  exact calls_of_exec2' (P := Tryz.prog) (fn := Tryz.f150) (c := Tryz.f150.body.getD .skip) (args := [Value.slice p n c,
  Value.func (Fn.func f) fa fb]) (w := w) (R := R) purM_ok Tryz.func150 hb e h

def VC_fvalidC (c : Int) (w : World) (R : Ending → World → Prop) : Prop :=
 R (Ending.returned (Value.bool (!letterB c && !digitB c && c != 45))) w
theorem vc_fvalidC (c : Int) (w : World) (R : Ending → World → Prop) (h : VC_fvalidC c w R) : Calls Tryz.prog 143 ([Value.int
    IntKind.u8 c] : List Value).toArray w R := by
  have e : execR2 { P := Tryz.prog, loops := [], pur := purM, tails := [], joins := [], boxes := [] } Tryz.f143.results.toList R (Tryz.f143.body.getD .skip) (initF [Value.int
    IntKind.u8
    c] (Tryz.f143.ntmps - ([Value.int IntKind.u8 c] : List Value).length)) w = VC_fvalidC c w R := by kernel_rfl
  have hb : Tryz.f143.body = some (Tryz.f143.body.getD .skip) := by kernel_rfl
  exact calls_of_exec2' (P := Tryz.prog) (fn := Tryz.f143) (c := Tryz.f143.body.getD .skip) (args := [Value.int
    IntKind.u8 c]) (w := w) (R := R) purM_ok Tryz.func143 hb e h

def VC_fvalid (s : ByteArray) (w : World) (R : Ending → World → Prop) : Prop :=
 gimp (!(s.toList == [] || decide ((↑s.size : Int) > 40))) ((0 : Int) ≤ 0 ∧ 0 < (↑s.size : Int)) ∧
 bsp (s.toList == [] || decide ((↑s.size : Int) > 40) || !letterB (at8 s 0)) (R (Ending.returned (Value.bool false)) w)
 (∀ (c n : Nat) (w1 : World),
 s.size ≤ c →
 NewB w.drew (Obj.cells (bytesRow s c) 5 ((bytesRow s c).size, (bytesRow s c).size + 1)) n w1 →
 KeptL [] w w1 ∧
 CallsS Tryz.prog 142 #[Value.slice (some (Addr.mk n 0 none)) s.size c, Value.func (Fn.func 143) #[] #[]] w1
 fun (e : Ending) (w' : World) =>
 ∃ (x : Bool), e = Ending.returned (Value.bool x) ∧ KeptL [] w1 w' ∧ R (Ending.returned (Value.bool !x)) w')
theorem vc_fvalid (s : ByteArray) (w : World) (R : Ending → World → Prop) (h : VC_fvalid s w R) : Calls Tryz.prog 110 ([Value.string
    s] : List Value).toArray w R := by
  have e : execR2 { P := Tryz.prog, loops := [], pur := purM, tails := [], joins := [], boxes := [] } Tryz.f110.results.toList R (Tryz.f110.body.getD .skip) (initF [Value.string
    s] (Tryz.f110.ntmps - ([Value.string s] : List Value).length)) w = VC_fvalid s w R := by kernel_rfl
  have hb : Tryz.f110.body = some (Tryz.f110.body.getD .skip) := by kernel_rfl
  exact calls_of_exec2' (P := Tryz.prog) (fn := Tryz.f110) (c := Tryz.f110.body.getD .skip) (args := [Value.string
    s]) (w := w) (R := R) purM_ok Tryz.func110 hb e h

def VC_fcheckC (s : ByteArray) (w : World) (R : Ending → World → Prop) : Prop :=
 R (Ending.returned (Value.bool (decide ((↑s.size : Int) > 900)))) w
theorem vc_fcheckC (s : ByteArray) (w : World) (R : Ending → World → Prop) (h : VC_fcheckC s w R) : Calls Tryz.prog 148 ([Value.string
    s] : List Value).toArray w R := by
  have e : execR2 { P := Tryz.prog, loops := [], pur := purM, tails := [], joins := [], boxes := [] } Tryz.f148.results.toList R (Tryz.f148.body.getD .skip) (initF [Value.string
    s] (Tryz.f148.ntmps - ([Value.string s] : List Value).length)) w = VC_fcheckC s w R := by kernel_rfl
  have hb : Tryz.f148.body = some (Tryz.f148.body.getD .skip) := by kernel_rfl
  exact calls_of_exec2' (P := Tryz.prog) (fn := Tryz.f148) (c := Tryz.f148.body.getD .skip) (args := [Value.string
    s]) (w := w) (R := R) purM_ok Tryz.func148 hb e h

def VC_fcheck (a : ByteArray) (b : ByteArray) (w : World) (R : Ending → World → Prop) : Prop :=
 ∀ (n : Nat) (W : World),
 Loc w.heap.size [Blk.mk n 96 [Value.string a, Value.string b] 2] w W →
 CallsS Tryz.prog 110 #[Value.string a] W fun (e : Ending) (w' : World) =>
 ∃ (x : Bool),
 e = Ending.returned (Value.bool x) ∧
 KeptL [n] W w' ∧
 bsp (!x) (R (Ending.returned (Value.int IntKind.i64 12)) w')
 (CallsS Tryz.prog 149 #[Value.string b] w' fun (e : Ending) (w'_1 : World) =>
 ∃ (x : Int),
 e = Ending.returned (Value.int IntKind.i64 x) ∧
 KeptL [n] w' w'_1 ∧
 bsp (decide (x ≥ 0)) (R (Ending.returned (Value.int IntKind.i64 6)) w'_1)
 (∀ (W : World),
 Loc w.heap.size [Blk.mk n 96 [Value.string a, Value.string b] 0] w'_1 W →
 ∃ (S : World → Prop),
 S W ∧
 ∃ (x : ByteArray),
 (∀ (w' : World), S w' → w'.cell? (Addr.mk n (0 + 1) none) = some (Value.string x)) ∧
 ∃ (x_1 : ByteArray),
 (∀ (w' : World), S w' → w'.cell? (Addr.mk n (0 + 1) none) = some (Value.string x_1)) ∧
 CallsS Tryz.prog 79 #[Value.string x] W fun (e : Ending) (w' : World) =>
 ∃ (x : ByteArray),
 e = Ending.returned (Value.string x) ∧
 S w' ∧
 KeptL [n] W w' ∧
 bsp (!x.toList == x_1.toList) (R (Ending.returned (Value.int IntKind.i64 3)) w')
 (∃ (x : ByteArray),
 gimp (!decide ((↑b.size : Int) > 8192))
 (w'.cell? (Addr.mk n (0 + 1) none) = some (Value.string x)) ∧
 bsp (!decide ((↑b.size : Int) > 8192))
 (CallsS Tryz.prog 69 #[Value.string x] w' fun (e : Ending) (w'_2 : World) =>
 ∃ (p : Option Addr),
 ∃ (n_1 : Nat),
 ∃ (c : Nat),
 e = Ending.returned (Value.slice p n_1 c) ∧
 KeptL [n] w' w'_2 ∧
 CallsS Tryz.prog 150 #[Value.slice p n_1 c, Value.func (Fn.func 148) #[] #[]] w'_2
 fun (e : Ending) (w' : World) =>
 ∃ (x : Bool),
 e = Ending.returned (Value.bool x) ∧
 KeptL [n] w'_2 w' ∧
 bsp (false || x) (R (Ending.returned (Value.int IntKind.i64 5)) w')
 (R (Ending.returned (Value.int IntKind.i64 0)) w'))
 (KeptL [n] w' w' ∧ KeptL [n] w' w' ∧ R (Ending.returned (Value.int IntKind.i64 5)) w'))))
theorem vc_fcheck (a : ByteArray) (b : ByteArray) (w : World) (R : Ending → World → Prop) (h : VC_fcheck a b w R) : Calls Tryz.prog 123 ([Value.agg
    #[Value.string a, Value.string b]] : List Value).toArray w R := by
  have e : execR2 { P := Tryz.prog, loops := [], pur := purM, tails := [(6, 2)], joins := [], boxes := [] } Tryz.f123.results.toList R (Tryz.f123.body.getD .skip) (initF [Value.agg
    #[Value.string a,
      Value.string
        b]] (Tryz.f123.ntmps - ([Value.agg
    #[Value.string a, Value.string b]] : List Value).length)) w = VC_fcheck a b w R := by kernel_rfl
  have hb : Tryz.f123.body = some (Tryz.f123.body.getD .skip) := by kernel_rfl
  exact calls_of_exec2' (P := Tryz.prog) (fn := Tryz.f123) (c := Tryz.f123.body.getD .skip) (args := [Value.agg
    #[Value.string a, Value.string b]]) (w := w) (R := R) purM_ok Tryz.func123 hb e h

def VC_ffold (a : ByteArray) (b : ByteArray) (w : World) (R : Ending → World → Prop) : Prop :=
 ∀ (n : Nat) (W : World),
 Loc w.heap.size [Blk.mk n 96 [Value.string a, Value.string b] 2] w W →
 CallsS Tryz.prog 123 #[Value.agg #[Value.string a, Value.string b]] W fun (e : Ending) (w' : World) =>
 ∃ (x : Int),
 e = Ending.returned (Value.int IntKind.i64 x) ∧
 KeptL [n] W w' ∧
 bsp (x != 0) (R (Ending.returned (Value.tuple #[Value.string (ByteArray.mk #[]), Value.int IntKind.i64 x])) w')
 (∀ (n_1 : Nat),
 (9223372036854775807 - (↑(a.size + (ByteArray.mk #[58]).size) : Int)).NonNeg ∧
 ∀ (W : World),
 Loc w.heap.size
 [Blk.mk n_1 140 [Value.pointer none, Value.slice none 0 0] 2,
 Blk.mk n 96 [Value.string a, Value.string b] 0]
 w' W →
 CallsS Tryz.prog 69 #[Value.string b] W fun (e : Ending) (w' : World) =>
 ∃ (p : Option Addr),
 ∃ (n_2 : Nat),
 ∃ (c : Nat),
 e = Ending.returned (Value.slice p n_2 c) ∧
 KeptL [n_1, n] W w' ∧
 ∃ (I : List Value → World → Prop),
 ∃ (m : List Value → World → Nat),
 I [Value.int IntKind.i64 0, Value.int IntKind.i64 0, Value.string (a ++ ByteArray.mk #[58])] w' ∧
 ∀ (x x_1 : Int) (x_2 : ByteArray) (w' : World),
 I [Value.int IntKind.i64 x, Value.int IntKind.i64 x_1, Value.string x_2] w' →
 Loc w.heap.size [Blk.mk n 96 [Value.string a, Value.string b] 0] w' w' →
 bsp (decide (x < (↑n_2 : Int)))
 (nn true p fun (b o : Nat) =>
 (0 ≤ x ∧ x < (↑n_2 : Int)) ∧
 ∃ (x_3 : ByteArray),
 w'.cell? (Addr.mk b (o + x.toNat) none) = some (Value.string x_3) ∧
 bsp
 (decide (x_1 > 0) &&
 decide
 (IntKind.i64.wrap (IntKind.i64.wrap ((↑x_2.size : Int) + 1) + (↑x_3.size : Int)) > 78))
 ((9223372036854775807 - (↑(x_2.size + (ByteArray.mk #[10]).size) : Int)).NonNeg ∧
 CallsS Tryz.prog 82
 #[Value.pointer (some (Addr.mk n_1 0 none)), Value.string (x_2 ++ ByteArray.mk #[10])] w'
 fun (e : Ending) (w'_1 : World) =>
 ∃ (x_4 : Int),
 ∃ (x_5 : Value),
 e = Ending.returned (Value.tuple #[Value.int IntKind.i64 x_4, x_5]) ∧
 KeptL [n] w' w'_1 ∧
 (9223372036854775807 - (↑((ByteArray.mk #[32]).size + x_3.size) : Int)).NonNeg ∧
 (9223372036854775807 -
 (↑((ByteArray.mk #[]).size + (ByteArray.mk #[32] ++ x_3).size) : Int)).NonNeg ∧
 I
 [Value.int IntKind.i64 (IntKind.i64.wrap (x + 1)),
 Value.int IntKind.i64 (IntKind.i64.wrap (x_1 + 1)),
 Value.string (ByteArray.mk #[] ++ (ByteArray.mk #[32] ++ x_3))]
 w'_1 ∧
 m
 [Value.int IntKind.i64 (IntKind.i64.wrap (x + 1)),
 Value.int IntKind.i64 (IntKind.i64.wrap (x_1 + 1)),
 Value.string (ByteArray.mk #[] ++ (ByteArray.mk #[32] ++ x_3))]
 w'_1 <
 m [Value.int IntKind.i64 x, Value.int IntKind.i64 x_1, Value.string x_2] w')
 ((9223372036854775807 - (↑((ByteArray.mk #[32]).size + x_3.size) : Int)).NonNeg ∧
 (9223372036854775807 - (↑(x_2.size + (ByteArray.mk #[32] ++ x_3).size) : Int)).NonNeg ∧
 I
 [Value.int IntKind.i64 (IntKind.i64.wrap (x + 1)),
 Value.int IntKind.i64 (IntKind.i64.wrap (x_1 + 1)),
 Value.string (x_2 ++ (ByteArray.mk #[32] ++ x_3))]
 w' ∧
 m
 [Value.int IntKind.i64 (IntKind.i64.wrap (x + 1)),
 Value.int IntKind.i64 (IntKind.i64.wrap (x_1 + 1)),
 Value.string (x_2 ++ (ByteArray.mk #[32] ++ x_3))]
 w' <
 m [Value.int IntKind.i64 x, Value.int IntKind.i64 x_1, Value.string x_2] w'))
 ((9223372036854775807 - (↑(x_2.size + (ByteArray.mk #[10]).size) : Int)).NonNeg ∧
 CallsS Tryz.prog 82
 #[Value.pointer (some (Addr.mk n_1 0 none)), Value.string (x_2 ++ ByteArray.mk #[10])] w'
 fun (e : Ending) (w'_1 : World) =>
 ∃ (x : Int),
 ∃ (x_3 : Value),
 e = Ending.returned (Value.tuple #[Value.int IntKind.i64 x, x_3]) ∧
 KeptL [n] w' w'_1 ∧
 CallsS Tryz.prog 84 #[Value.pointer (some (Addr.mk n_1 0 none))] w'_1
 fun (e : Ending) (w' : World) =>
 ∃ (x : ByteArray),
 e = Ending.returned (Value.string x) ∧
 KeptL [n] w'_1 w' ∧
 R (Ending.returned (Value.tuple #[Value.string x, Value.int IntKind.i64 0])) w'))
theorem vc_ffold (a : ByteArray) (b : ByteArray) (w : World) (R : Ending → World → Prop) (h : VC_ffold a b w R) : Calls Tryz.prog 81 ([Value.agg
    #[Value.string a, Value.string b]] : List Value).toArray w R := by
  have e : execR2 { P := Tryz.prog, loops := [(7, [(22, Ck.int IntKind.i64), (7, Ck.int IntKind.i64), (6, Ck.str)])], pur := purM, tails := [], joins := [], boxes := [] } Tryz.f81.results.toList R (Tryz.f81.body.getD .skip) (initF [Value.agg
    #[Value.string a,
      Value.string
        b]] (Tryz.f81.ntmps - ([Value.agg
    #[Value.string a, Value.string b]] : List Value).length)) w = VC_ffold a b w R := by kernel_rfl
  have hb : Tryz.f81.body = some (Tryz.f81.body.getD .skip) := by kernel_rfl
  exact calls_of_exec2' (P := Tryz.prog) (fn := Tryz.f81) (c := Tryz.f81.body.getD .skip) (args := [Value.agg
    #[Value.string a, Value.string b]]) (w := w) (R := R) purM_ok Tryz.func81 hb e h

def VC_fprint (p : Option Addr) (n : Nat) (c : Nat) (w : World) (R : Ending → World → Prop) : Prop :=
 bsp (decide ((↑n : Int) > 64))
 (R (Ending.returned (Value.tuple #[Value.string (ByteArray.mk #[]), Value.int IntKind.i64 9])) w)
 (∀ (n_1 : Nat) (W : World),
 Loc w.heap.size [Blk.mk n_1 140 [Value.pointer none, Value.slice none 0 0] 2] w W →
 ∃ (I : List Value → World → Prop),
 ∃ (m : List Value → World → Nat),
 I [Value.int IntKind.i64 0] W ∧
 ∀ (x : Int) (w' : World),
 I [Value.int IntKind.i64 x] w' →
 bsp (decide (x < (↑n : Int)))
 (nn true p fun (b o : Nat) =>
 (0 ≤ x ∧ x < (↑n : Int)) ∧
 ∃ (x_1 : ByteArray),
 ∃ (x_2 : ByteArray),
 AtL w' b (o + x.toNat * 2) [Value.string x_1, Value.string x_2] ∧
 ∀ (n : Nat) (W : World),
 Loc w.heap.size [Blk.mk n 96 [Value.string x_1, Value.string x_2] (wrM 2)] w' W →
 CallsS Tryz.prog 81 #[Value.agg #[Value.string x_1, Value.string x_2]] W
 fun (e : Ending) (w'_1 : World) =>
 ∃ (x_3 : ByteArray),
 ∃ (x_4 : Int),
 e = Ending.returned (Value.tuple #[Value.string x_3, Value.int IntKind.i64 x_4]) ∧
 KeptL [n] W w'_1 ∧
 bsp (x_4 != 0)
 (R (Ending.returned (Value.tuple #[Value.string (ByteArray.mk #[]), Value.int IntKind.i64 x_4]))
 w'_1)
 (CallsS Tryz.prog 82 #[Value.pointer (some (Addr.mk n_1 0 none)), Value.string x_3] w'_1
 fun (e : Ending) (w'_2 : World) =>
 ∃ (x_5 : Int),
 ∃ (x_6 : Value),
 e = Ending.returned (Value.tuple #[Value.int IntKind.i64 x_5, x_6]) ∧
 KeptL [n] w'_1 w'_2 ∧
 I [Value.int IntKind.i64 (IntKind.i64.wrap (x + 1))] w'_2 ∧
 m [Value.int IntKind.i64 (IntKind.i64.wrap (x + 1))] w'_2 < m [Value.int IntKind.i64 x] w'))
 (CallsS Tryz.prog 83 #[Value.pointer (some (Addr.mk n_1 0 none))] w' fun (e : Ending) (w'_1 : World) =>
 ∃ (x : Int),
 e = Ending.returned (Value.int IntKind.i64 x) ∧
 KeptL [] w' w'_1 ∧
 bsp (decide (x > 65536))
 (R (Ending.returned (Value.tuple #[Value.string (ByteArray.mk #[]), Value.int IntKind.i64 5])) w'_1)
 (CallsS Tryz.prog 84 #[Value.pointer (some (Addr.mk n_1 0 none))] w'_1 fun (e : Ending) (w' : World) =>
 ∃ (x : ByteArray),
 e = Ending.returned (Value.string x) ∧
 KeptL [] w'_1 w' ∧ R (Ending.returned (Value.tuple #[Value.string x, Value.int IntKind.i64 0])) w')))
theorem vc_fprint (p : Option Addr) (n : Nat) (c : Nat) (w : World) (R : Ending → World → Prop) (h : VC_fprint p n c w R) : Calls Tryz.prog 39 ([Value.slice
    p n c] : List Value).toArray w R := by
  have e : execR2 { P := Tryz.prog, loops := [(5, [(14, Ck.int IntKind.i64)])], pur := purM, tails := [], joins := [], boxes := [] } Tryz.f39.results.toList R (Tryz.f39.body.getD .skip) (initF [Value.slice
    p n c] (Tryz.f39.ntmps - ([Value.slice p n c] : List Value).length)) w = VC_fprint p n c w R := by kernel_rfl
  have hb : Tryz.f39.body = some (Tryz.f39.body.getD .skip) := by kernel_rfl
  exact calls_of_exec2' (P := Tryz.prog) (fn := Tryz.f39) (c := Tryz.f39.body.getD .skip) (args := [Value.slice p n
    c]) (w := w) (R := R) purM_ok Tryz.func39 hb e h

def VC_mprint (fu : ByteArray) (fs : ByteArray) (tu : ByteArray) (ts : ByteArray) (n : Int) (d : Int) (sj : ByteArray) (hp : Option Addr) (hn : Nat) (hc : Nat) (bd : ByteArray) (w : World) (R : Ending → World → Prop) : Prop :=
 ∀ (n_1 : Nat) (W : World),
 Loc w.heap.size
 [Blk.mk n_1 26
 [Value.string fu, Value.string fs, Value.string tu, Value.string ts, Value.int IntKind.i64 n,
 Value.int IntKind.i64 d, Value.string sj, Value.slice hp hn hc, Value.string bd]
 2]
 w W →
 CallsS Tryz.prog 38
 #[Value.agg
 #[Value.string fu, Value.string fs, Value.string tu, Value.string ts, Value.int IntKind.i64 n,
 Value.int IntKind.i64 d, Value.string sj, Value.slice hp hn hc, Value.string bd]]
 W fun (e : Ending) (w' : World) =>
 ∃ (x : Int),
 e = Ending.returned (Value.int IntKind.i64 x) ∧
 KeptL [n_1] W w' ∧
 bsp (x != 0) (R (Ending.returned (Value.tuple #[Value.string (ByteArray.mk #[]), Value.int IntKind.i64 x])) w')
 (∀ (W : World),
 Loc w.heap.size
 [Blk.mk n_1 26
 [Value.string fu, Value.string fs, Value.string tu, Value.string ts, Value.int IntKind.i64 n,
 Value.int IntKind.i64 d, Value.string sj, Value.slice hp hn hc, Value.string bd]
 0]
 w' W →
 ∃ (S : World → Prop),
 S W ∧
 ∃ (x : ByteArray),
 ∃ (x_1 : ByteArray),
 (∀ (w' : World), S w' → AtL w' n_1 0 [Value.string x, Value.string x_1]) ∧
 ∃ (x_2 : ByteArray),
 ∃ (x_3 : ByteArray),
 (∀ (w' : World), S w' → AtL w' n_1 (0 + 2) [Value.string x_2, Value.string x_3]) ∧
 ∃ (x_4 : Int),
 (∀ (w' : World), S w' → w'.cell? (Addr.mk n_1 (0 + 4) none) = some (Value.int IntKind.i64 x_4)) ∧
 ∃ (x_5 : Int),
 (∀ (w' : World), S w' → w'.cell? (Addr.mk n_1 (0 + 5) none) = some (Value.int IntKind.i64 x_5)) ∧
 ∃ (p : Option Addr),
 ∃ (n : Nat),
 ∃ (c : Nat),
 (∀ (w' : World), S w' → w'.cell? (Addr.mk n_1 (0 + 7) none) = some (Value.slice p n c)) ∧
 ∃ (x_6 : ByteArray),
 (∀ (w' : World), S w' → w'.cell? (Addr.mk n_1 (0 + 6) none) = some (Value.string x_6)) ∧
 CallsS Tryz.prog 40 #[Value.agg #[Value.string x, Value.string x_1]] W
 fun (e : Ending) (w' : World) =>
 ∃ (x : ByteArray),
 e = Ending.returned (Value.string x) ∧
 S w' ∧
 CallsS Tryz.prog 40 #[Value.agg #[Value.string x_2, Value.string x_3]] w'
 fun (e : Ending) (w' : World) =>
 ∃ (x_7 : ByteArray),
 e = Ending.returned (Value.string x_7) ∧
 S w' ∧
 CallsS Tryz.prog 41 #[Value.int IntKind.i64 x_4] w' fun (e : Ending) (w' : World) =>
 ∃ (x_8 : ByteArray),
 e = Ending.returned (Value.string x_8) ∧
 S w' ∧
 CallsS Tryz.prog 41 #[Value.int IntKind.i64 x_5] w'
 fun (e : Ending) (w' : World) =>
 ∃ (x_9 : ByteArray),
 e = Ending.returned (Value.string x_9) ∧
 S w' ∧
 CallsS Tryz.prog 42 #[Value.slice p n c, Value.string (ByteArray.mk #[32])]
 w' fun (e : Ending) (w' : World) =>
 ∃ (x_10 : ByteArray),
 e = Ending.returned (Value.string x_10) ∧
 S w' ∧
 ∀ (n : Nat) (w1 : World),
 NewB w'
 (Obj.cells
 #[Value.string (ByteArray.mk #[70, 114, 111, 109]), Value.string x,
 Value.string (ByteArray.mk #[84, 111]), Value.string x_7,
 Value.string (ByteArray.mk #[78, 117, 109, 98, 101, 114]),
 Value.string x_8, Value.string (ByteArray.mk #[68, 97, 116, 101]),
 Value.string x_9, Value.string (ByteArray.mk #[72, 111, 112, 115]),
 Value.string x_10,
 Value.string (ByteArray.mk #[83, 117, 98, 106, 101, 99, 116]),
 Value.string x_6]
 96)
 n w1 →
 CallsS Tryz.prog 39 #[Value.slice (some (Addr.mk n 0 none)) 6 6] w1
 fun (e : Ending) (w' : World) =>
 ∃ (x : ByteArray),
 ∃ (x_11 : Int),
 e =
 Ending.returned
 (Value.tuple #[Value.string x, Value.int IntKind.i64 x_11]) ∧
 KeptL [n_1] W w' ∧
 bsp (x_11 != 0)
 (R
 (Ending.returned
 (Value.tuple
 #[Value.string (ByteArray.mk #[]),
 Value.int IntKind.i64 x_11]))
 w')
 ((9223372036854775807 -
 (↑(x.size + (ByteArray.mk #[10]).size) : Int)).NonNeg ∧
 (9223372036854775807 -
 (↑((x ++ ByteArray.mk #[10]).size + bd.size) : Int)).NonNeg ∧
 R
 (Ending.returned
 (Value.tuple
 #[Value.string (x ++ ByteArray.mk #[10] ++ bd),
 Value.int IntKind.i64 0]))
 w'))
theorem vc_mprint (fu : ByteArray) (fs : ByteArray) (tu : ByteArray) (ts : ByteArray) (n : Int) (d : Int) (sj : ByteArray) (hp : Option Addr) (hn : Nat) (hc : Nat) (bd : ByteArray) (w : World) (R : Ending → World → Prop) (h : VC_mprint fu fs tu ts n d sj hp hn hc bd w R) : Calls Tryz.prog 12 ([Value.agg
    #[Value.string fu, Value.string fs, Value.string tu, Value.string ts, Value.int IntKind.i64 n,
      Value.int IntKind.i64 d, Value.string sj, Value.slice hp hn hc, Value.string bd]] : List Value).toArray w R := by
  have e : execR2 { P := Tryz.prog, loops := [], pur := purM, tails := [(4, 2)], joins := [], boxes := [] } Tryz.f12.results.toList R (Tryz.f12.body.getD .skip) (initF [Value.agg
    #[Value.string fu, Value.string fs, Value.string tu, Value.string ts, Value.int IntKind.i64 n,
      Value.int IntKind.i64 d, Value.string sj, Value.slice hp hn hc,
      Value.string
        bd]] (Tryz.f12.ntmps - ([Value.agg
    #[Value.string fu, Value.string fs, Value.string tu, Value.string ts, Value.int IntKind.i64 n,
      Value.int IntKind.i64 d, Value.string sj, Value.slice hp hn hc,
      Value.string bd]] : List Value).length)) w = VC_mprint fu fs tu ts n d sj hp hn hc bd w R := by kernel_rfl
  have hb : Tryz.f12.body = some (Tryz.f12.body.getD .skip) := by kernel_rfl
  exact calls_of_exec2' (P := Tryz.prog) (fn := Tryz.f12) (c := Tryz.f12.body.getD .skip) (args := [Value.agg
    #[Value.string fu, Value.string fs, Value.string tu, Value.string ts, Value.int IntKind.i64 n,
      Value.int IntKind.i64 d, Value.string sj, Value.slice hp hn hc,
      Value.string bd]]) (w := w) (R := R) purM_ok Tryz.func12 hb e h

end Go.Proofs.YtmlmdljnfokebaaGreatDoor
