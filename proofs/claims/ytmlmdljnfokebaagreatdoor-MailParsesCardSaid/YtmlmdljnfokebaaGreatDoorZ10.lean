/- The formulas of functions by the symbolic evaluator, and that each gives the call's contract. Written by a program (gen.py). No condition. -/
import Derived.Test.YtmlmdljnfokebaaGreatDoorProg
import Derived.Test.YtmlmdljnfokebaaGreatDoorZ02
import Derived.Test.YtmlmdljnfokebaaGreatDoorZ04
import Derived.KernelRfl
import Derived.Test.YtmlmdljnfokebaaGreatDoorZ09
import Derived.Test.YtmlmdljnfokebaaGreatDoorZ05
namespace Go.Proofs.YtmlmdljnfokebaaGreatDoor
set_option maxRecDepth 100000
set_option linter.unusedVariables false

def VC_lretries (fu : ByteArray) (fs : ByteArray) (tu : ByteArray) (ts : ByteArray) (n : Int) (d : Int) (sj : ByteArray) (hp : Option Addr) (hn : Nat) (hc : Nat) (bd : ByteArray) (s : ByteArray) (now : Int) (w : World) (R : Ending → World → Prop) : Prop :=
 ∀ (n_1 : Nat) (W : World),
 Loc w.heap.size
 [Blk.mk n_1 32
 [Value.string fu, Value.string fs, Value.string tu, Value.string ts, Value.int IntKind.i64 n,
 Value.int IntKind.i64 d, Value.string sj, Value.slice hp hn hc, Value.string bd]
 2]
 w W →
 CallsS Tryz.prog 14
 #[Value.agg
 #[Value.string fu, Value.string fs, Value.string tu, Value.string ts, Value.int IntKind.i64 n,
 Value.int IntKind.i64 d, Value.string sj, Value.slice hp hn hc, Value.string bd]]
 W fun (e : Ending) (w' : World) =>
 ∃ (x : ByteArray),
 ∃ (x_1 : ByteArray),
 ∃ (x_2 : ByteArray),
 ∃ (x_3 : ByteArray),
 ∃ (x_4 : Int),
 ∃ (x_5 : Int),
 ∃ (x_6 : ByteArray),
 ∃ (p : Option Addr),
 ∃ (n_2 : Nat),
 ∃ (c : Nat),
 ∃ (x_7 : ByteArray),
 e =
 Ending.returned
 (Value.agg
 #[Value.string x, Value.string x_1, Value.string x_2, Value.string x_3, Value.int IntKind.i64 x_4,
 Value.int IntKind.i64 x_5, Value.string x_6, Value.slice p n_2 c, Value.string x_7]) ∧
 KeptL [n_1] W w' ∧
 ∀ (n_3 : Nat),
 ((0 ≤ if 60 < (↑s.size : Int) then 60 else (↑s.size : Int)) ∧
 (if 60 < (↑s.size : Int) then 60 else (↑s.size : Int)) ≤ (↑s.size : Int)) ∧
 ∀ (W : World),
 Loc w.heap.size
 [Blk.mk n_3 26
 [Value.string x, Value.string x_1, Value.string x_2, Value.string x_3, Value.int IntKind.i64 x_4,
 Value.int IntKind.i64 x_5, Value.string x_6, Value.slice p n_2 c, Value.string x_7]
 (wrM 2),
 Blk.mk n_1 32
 [Value.string fu, Value.string fs, Value.string tu, Value.string ts, Value.int IntKind.i64 n,
 Value.int IntKind.i64 d, Value.string sj, Value.slice hp hn hc, Value.string bd]
 0]
 w' W →
 CallsS Tryz.prog 17
 #[Value.string (s.extract 0 (if 60 < (↑s.size : Int) then 60 else (↑s.size : Int)).toNat)] W
 fun (e : Ending) (w' : World) =>
 ∃ (x_8 : Option Addr),
 ∃ (x_9 : Int),
 e = Ending.returned (Value.tuple #[Value.pointer x_8, Value.int IntKind.i64 x_9]) ∧
 KeptL [n_3, n_1] W w' ∧
 CallsS Tryz.prog 13 #[] w' fun (e : Ending) (w'_1 : World) =>
 ∃ (x_10 : Bool),
 e = Ending.returned (Value.bool x_10) ∧
 KeptL [n_3, n_1] w' w'_1 ∧
 bsp (!x_10 || x_9 != 0 || decide (now < 0) || decide (now > 100000000))
 (CallsS Tryz.prog 13 #[] w'_1 fun (e : Ending) (w' : World) =>
 ∃ (x : Bool),
 e = Ending.returned (Value.bool x) ∧
 KeptL [n_3, n_1] w'_1 w' ∧ R (Ending.returned (Value.bool x)) w')
 (CallsS Tryz.prog 18
 #[Value.pointer x_8,
 Value.agg
 #[Value.string x, Value.string x_1, Value.string x_2, Value.string x_3,
 Value.int IntKind.i64 x_4, Value.int IntKind.i64 x_5, Value.string x_6,
 Value.slice p n_2 c, Value.string x_7],
 Value.int IntKind.i64 now]
 w'_1 fun (e : Ending) (w' : World) =>
 ∃ (x_11 : Int),
 ∃ (x_12 : Int),
 e =
 Ending.returned
 (Value.tuple #[Value.int IntKind.i64 x_11, Value.int IntKind.i64 x_12]) ∧
 KeptL [n_3, n_1] w'_1 w' ∧
 bsp (x_12 != 0)
 (bsp (x_11 == 0)
 (CallsS Tryz.prog 19 #[Value.pointer x_8] w' fun (e : Ending) (w'_2 : World) =>
 ∃ (x : Int),
 e = Ending.returned (Value.int IntKind.i64 x) ∧
 KeptL [n_3, n_1] w' w'_2 ∧
 R (Ending.returned (Value.bool (true && x == 0))) w'_2)
 (KeptL [n_3, n_1] w' w' ∧ R (Ending.returned (Value.bool false)) w'))
 (∃ (I : List Value → World → Prop),
 ∃ (m : List Value → World → Nat),
 I [Value.int IntKind.i64 1, Value.int IntKind.i64 5, Value.int IntKind.i64 now]
 w' ∧
 ∀ (x_13 x_14 x_15 : Int) (w' : World),
 I
 [Value.int IntKind.i64 x_13, Value.int IntKind.i64 x_14,
 Value.int IntKind.i64 x_15]
 w' →
 Loc w.heap.size
 [Blk.mk n_3 26
 [Value.string x, Value.string x_1, Value.string x_2, Value.string x_3,
 Value.int IntKind.i64 x_4, Value.int IntKind.i64 x_5, Value.string x_6,
 Value.slice p n_2 c, Value.string x_7]
 0,
 Blk.mk n_1 32
 [Value.string fu, Value.string fs, Value.string tu, Value.string ts,
 Value.int IntKind.i64 n, Value.int IntKind.i64 d, Value.string sj,
 Value.slice hp hn hc, Value.string bd]
 0]
 w' w' →
 bsp (decide (x_13 ≤ 8))
 (CallsS Tryz.prog 20
 #[Value.pointer x_8, Value.int IntKind.i64 x_11, Value.int IntKind.i64 x_15,
 Value.int IntKind.i64 26, Value.bool false]
 w' fun (e : Ending) (w'_2 : World) =>
 ∃ (x_16 : Int),
 ∃ (x_17 : Bool),
 ∃ (x_18 : Int),
 e =
 Ending.returned
 (Value.tuple
 #[Value.int IntKind.i64 x_16, Value.bool x_17,
 Value.int IntKind.i64 x_18]) ∧
 KeptL [n_3, n_1] w' w'_2 ∧
 bsp (x_18 != 0) (R (Ending.returned (Value.bool false)) w'_2)
 (CallsS Tryz.prog 21 #[Value.pointer x_8, Value.int IntKind.i64 x_11]
 w'_2 fun (e : Ending) (w'_3 : World) =>
 ∃ (x_19 : ByteArray),
 ∃ (x_20 : ByteArray),
 ∃ (x_21 : ByteArray),
 ∃ (x_22 : ByteArray),
 ∃ (x_23 : Int),
 ∃ (x_24 : Int),
 ∃ (x_25 : ByteArray),
 ∃ (p_1 : Option Addr),
 ∃ (n_4 : Nat),
 ∃ (c_1 : Nat),
 ∃ (x_26 : ByteArray),
 ∃ (x_27 : Int),
 ∃ (x_28 : Bool),
 e =
 Ending.returned
 (Value.tuple
 #[Value.agg
 #[Value.string x_19, Value.string x_20,
 Value.string x_21, Value.string x_22,
 Value.int IntKind.i64 x_23,
 Value.int IntKind.i64 x_24, Value.string x_25,
 Value.slice p_1 n_4 c_1, Value.string x_26],
 Value.int IntKind.i64 x_27, Value.bool x_28]) ∧
 KeptL [n_3, n_1] w'_2 w'_3 ∧
 ∀ (n_5 : Nat),
 bsp (x_13 == 8)
 (∃ (x_29 : ByteArray),
 gimp (!x_28)
 (∀ (W : World),
 Loc w.heap.size
 [Blk.mk n_3 26
 [Value.string x, Value.string x_1,
 Value.string x_2, Value.string x_3,
 Value.int IntKind.i64 x_4,
 Value.int IntKind.i64 x_5,
 Value.string x_6, Value.slice p n_2 c,
 Value.string x_7]
 0,
 Blk.mk n_1 32
 [Value.string fu, Value.string fs,
 Value.string tu, Value.string ts,
 Value.int IntKind.i64 n,
 Value.int IntKind.i64 d, Value.string sj,
 Value.slice hp hn hc, Value.string bd]
 0,
 Blk.mk n_5 26
 [Value.string x_19, Value.string x_20,
 Value.string x_21, Value.string x_22,
 Value.int IntKind.i64 x_23,
 Value.int IntKind.i64 x_24,
 Value.string x_25, Value.slice p_1 n_4 c_1,
 Value.string x_26]
 (wrM 2)]
 w'_3 W →
 W.cell? (Addr.mk n_3 0 none) =
 some (Value.string x_29)) ∧
 ∀ (W : World),
 Loc w.heap.size
 [Blk.mk n_3 26
 [Value.string x, Value.string x_1,
 Value.string x_2, Value.string x_3,
 Value.int IntKind.i64 x_4,
 Value.int IntKind.i64 x_5, Value.string x_6,
 Value.slice p n_2 c, Value.string x_7]
 0,
 Blk.mk n_1 32
 [Value.string fu, Value.string fs,
 Value.string tu, Value.string ts,
 Value.int IntKind.i64 n,
 Value.int IntKind.i64 d, Value.string sj,
 Value.slice hp hn hc, Value.string bd]
 0,
 Blk.mk n_5 26
 [Value.string x_19, Value.string x_20,
 Value.string x_21, Value.string x_22,
 Value.int IntKind.i64 x_23,
 Value.int IntKind.i64 x_24,
 Value.string x_25, Value.slice p_1 n_4 c_1,
 Value.string x_26]
 (wrM 2)]
 w'_3 W →
 bsp (!x_28 && x_17 == !x_29.toList == [])
 (bsp
 (x_17 && x_16 == IntKind.i64.wrap (x_11 + 1))
 (CallsS Tryz.prog 19 #[Value.pointer x_8] W
 fun (e : Ending) (w' : World) =>
 ∃ (x : Int),
 e =
 Ending.returned
 (Value.int IntKind.i64 x) ∧
 KeptL [n_3, n_1, n_5] W w' ∧
 bsp (!(true && x == 1))
 (bsp (!x_17 && x_16 == 0)
 (CallsS Tryz.prog 19
 #[Value.pointer x_8] w'
 fun (e : Ending) (w'_4 : World) =>
 ∃ (x : Int),
 e =
 Ending.returned
 (Value.int IntKind.i64 x) ∧
 KeptL [n_3, n_1, n_5] w' w'_4 ∧
 R
 (Ending.returned
 (Value.bool
 (true &&
 (false || true && x == 0))))
 w'_4)
 (KeptL [n_3, n_1, n_5] w' w' ∧
 R
 (Ending.returned
 (Value.bool
 (true && (false || false))))
 w'))
 (KeptL [n_3, n_1, n_5] w' w' ∧
 R
 (Ending.returned
 (Value.bool (true && true)))
 w'))
 (KeptL [n_3, n_1, n_5] W W ∧
 bsp (!x_17 && x_16 == 0)
 (CallsS Tryz.prog 19 #[Value.pointer x_8] W
 fun (e : Ending) (w' : World) =>
 ∃ (x : Int),
 e =
 Ending.returned
 (Value.int IntKind.i64 x) ∧
 KeptL [n_3, n_1, n_5] W w' ∧
 R
 (Ending.returned
 (Value.bool
 (true && (false || true && x == 0))))
 w')
 (KeptL [n_3, n_1, n_5] W W ∧
 R
 (Ending.returned
 (Value.bool (true && (false || false))))
 W)))
 (KeptL [n_3, n_1, n_5] W W ∧
 KeptL [n_3, n_1, n_5] W W ∧
 R (Ending.returned (Value.bool false)) W))
 (∀ (W : World),
 Loc w.heap.size
 [Blk.mk n_3 26
 [Value.string x, Value.string x_1,
 Value.string x_2, Value.string x_3,
 Value.int IntKind.i64 x_4,
 Value.int IntKind.i64 x_5, Value.string x_6,
 Value.slice p n_2 c, Value.string x_7]
 0,
 Blk.mk n_1 32
 [Value.string fu, Value.string fs,
 Value.string tu, Value.string ts,
 Value.int IntKind.i64 n,
 Value.int IntKind.i64 d, Value.string sj,
 Value.slice hp hn hc, Value.string bd]
 0,
 Blk.mk n_5 26
 [Value.string x_19, Value.string x_20,
 Value.string x_21, Value.string x_22,
 Value.int IntKind.i64 x_23,
 Value.int IntKind.i64 x_24, Value.string x_25,
 Value.slice p_1 n_4 c_1, Value.string x_26]
 (wrM 2)]
 w'_3 W →
 bsp
 (!(x_17 || !x_28 ||
 x_27 != IntKind.i64.wrap (x_15 + x_14)))
 (CallsS Tryz.prog 22
 #[Value.pointer x_8,
 Value.int IntKind.i64
 (IntKind.i64.wrap (x_27 - 1))]
 W fun (e : Ending) (w'_4 : World) =>
 ∃ (p : Option Addr),
 ∃ (n : Nat),
 ∃ (c : Nat),
 e = Ending.returned (Value.slice p n c) ∧
 KeptL [n_3, n_1, n_5] W w'_4 ∧
 bsp (!(false || (↑n : Int) != 0))
 (CallsS Tryz.prog 22
 #[Value.pointer x_8,
 Value.int IntKind.i64 x_27]
 w'_4 fun (e : Ending) (w'_5 : World) =>
 ∃ (p : Option Addr),
 ∃ (n : Nat),
 ∃ (c : Nat),
 e =
 Ending.returned
 (Value.slice p n c) ∧
 KeptL [n_3, n_1, n_5] w'_4 w'_5 ∧
 bsp (false || (↑n : Int) != 1)
 (R
 (Ending.returned
 (Value.bool false))
 w'_5)
 (I
 [Value.int IntKind.i64
 (IntKind.i64.wrap (x_13 + 1)),
 Value.int IntKind.i64
 (IntKind.i64.wrap (2 * x_14)),
 Value.int IntKind.i64 x_27]
 w'_5 ∧
 m
 [Value.int IntKind.i64
 (IntKind.i64.wrap (x_13 + 1)),
 Value.int IntKind.i64
 (IntKind.i64.wrap (2 * x_14)),
 Value.int IntKind.i64 x_27]
 w'_5 <
 m
 [Value.int IntKind.i64 x_13,
 Value.int IntKind.i64 x_14,
 Value.int IntKind.i64 x_15]
 w'))
 (KeptL [n_3, n_1, n_5] w'_4 w'_4 ∧
 R (Ending.returned (Value.bool false))
 w'_4))
 (KeptL [n_3, n_1, n_5] W W ∧
 KeptL [n_3, n_1, n_5] W W ∧
 R (Ending.returned (Value.bool false)) W))))
 (R (Ending.returned (Value.bool false)) w')))
theorem vc_lretries (fu : ByteArray) (fs : ByteArray) (tu : ByteArray) (ts : ByteArray) (n : Int) (d : Int) (sj : ByteArray) (hp : Option Addr) (hn : Nat) (hc : Nat) (bd : ByteArray) (s : ByteArray) (now : Int) (w : World) (R : Ending → World → Prop) (h : VC_lretries fu fs tu ts n d sj hp hn hc bd s now w R) : Calls Tryz.prog 5 ([Value.agg
    #[Value.string fu, Value.string fs, Value.string tu, Value.string ts, Value.int IntKind.i64 n,
      Value.int IntKind.i64 d, Value.string sj, Value.slice hp hn hc, Value.string bd],
  Value.string s, Value.int IntKind.i64 now] : List Value).toArray w R := by
  have e : execR2 { P := Tryz.prog, loops := [(10, [(13, Ck.int IntKind.i64), (12, Ck.int IntKind.i64), (2, Ck.int IntKind.i64)])], pur := purM, tails := [], joins := [], boxes := [] } Tryz.f5.results.toList R (Tryz.f5.body.getD .skip) (initF [Value.agg
    #[Value.string fu, Value.string fs, Value.string tu, Value.string ts, Value.int IntKind.i64 n,
      Value.int IntKind.i64 d, Value.string sj, Value.slice hp hn hc, Value.string bd],
  Value.string s,
  Value.int IntKind.i64
    now] (Tryz.f5.ntmps - ([Value.agg
    #[Value.string fu, Value.string fs, Value.string tu, Value.string ts, Value.int IntKind.i64 n,
      Value.int IntKind.i64 d, Value.string sj, Value.slice hp hn hc, Value.string bd],
  Value.string s,
  Value.int IntKind.i64
    now] : List Value).length)) w = VC_lretries fu fs tu ts n d sj hp hn hc bd s now w R := by kernel_rfl
  have hb : Tryz.f5.body = some (Tryz.f5.body.getD .skip) := by kernel_rfl
  exact calls_of_exec2' (P := Tryz.prog) (fn := Tryz.f5) (c := Tryz.f5.body.getD .skip) (args := [Value.agg
    #[Value.string fu, Value.string fs, Value.string tu, Value.string ts, Value.int IntKind.i64 n,
      Value.int IntKind.i64 d, Value.string sj, Value.slice hp hn hc, Value.string bd],
  Value.string s, Value.int IntKind.i64 now]) (w := w) (R := R) purM_ok Tryz.func5 hb e h

def VC_lsound (s : ByteArray) (w : World) (R : Ending → World → Prop) : Prop :=
 (9223372036854775807 - (↑((ByteArray.mk #[64]).size + s.size) : Int)).NonNeg ∧
 CallsS Tryz.prog 35 #[Value.string (ByteArray.mk #[64] ++ s)] w fun (e : Ending) (w' : World) =>
 ∃ (x : ByteArray),
 ∃ (x_1 : ByteArray),
 ∃ (x_2 : Int),
 e = Ending.returned (Value.tuple #[Value.agg #[Value.string x, Value.string x_1], Value.int IntKind.i64 x_2]) ∧
 KeptL [] w w' ∧
 ∀ (n : Nat) (W : World),
 Loc w.heap.size [Blk.mk n 30 [Value.string x, Value.string x_1] (wrM 2)] w' W →
 R (Ending.returned (Value.bool (x_2 == 0))) W
theorem vc_lsound (s : ByteArray) (w : World) (R : Ending → World → Prop) (h : VC_lsound s w R) : Calls Tryz.prog 23 ([Value.string
    s] : List Value).toArray w R := by
  have e : execR2 { P := Tryz.prog, loops := [], pur := purM, tails := [], joins := [], boxes := [] } Tryz.f23.results.toList R (Tryz.f23.body.getD .skip) (initF [Value.string
    s] (Tryz.f23.ntmps - ([Value.string s] : List Value).length)) w = VC_lsound s w R := by kernel_rfl
  have hb : Tryz.f23.body = some (Tryz.f23.body.getD .skip) := by kernel_rfl
  exact calls_of_exec2' (P := Tryz.prog) (fn := Tryz.f23) (c := Tryz.f23.body.getD .skip) (args := [Value.string
    s]) (w := w) (R := R) purM_ok Tryz.func23 hb e h

end Go.Proofs.YtmlmdljnfokebaaGreatDoor

/- Chapter 49: a text is a site's name exactly if its address without a user is one; the contract of the statements' sound. No condition but sizes. -/
namespace Go.Proofs.YtmlmdljnfokebaaGreatDoor
open Go.RowKit

theorem site_perm {s : ByteArray} (h : siteE s = 0) : ∀ j, j < s.size → permB (at8 s j) = true := by
  unfold siteE siteS at h
  split at h
  · exact absurd h (by decide)
  split at h
  · exact absurd h (by decide)
  split at h
  · have h : (6 : Int) = 0 := h
    exact absurd h (by decide)
  rename_i hn
  rw [List.find?_range_eq_none] at hn
  intro j hj
  have := hn j hj
  simpa using this
theorem adr_at (s : ByteArray) : (adrP (⟨#[64]⟩ ++ s)).2 = 0 ↔ siteE s = 0 := by
  have e0 : (⟨#[64]⟩ ++ s : ByteArray) = ⟨#[]⟩ ++ ⟨#[64]⟩ ++ s := by
    rw [show (⟨#[]⟩ ++ ⟨#[64]⟩ : ByteArray) = ⟨#[64]⟩ from rfl]
  have hcnt : cntAt (⟨#[64]⟩ ++ s) = 1 + cntAt s := by
    unfold cntAt Lib.countByte
    rw [ByteArray.data_append, Array.toList_append, List.count_append]; rfl
  have hf : findC 64 (⟨#[]⟩ ++ ⟨#[64]⟩ ++ s) = 0 := (findC_first 64 _).uniq (first_app (c := 64) (a := ⟨#[]⟩) (rest := s) (fun j hj => absurd hj (Nat.not_lt_zero _)))
  have ht : (⟨#[]⟩ ++ ⟨#[64]⟩ ++ s : ByteArray).extract (0 + 1) (⟨#[]⟩ ++ ⟨#[64]⟩ ++ s : ByteArray).size = s := app_tail (c := 64) (a := ⟨#[]⟩) (rest := s)
  have hcs : siteE s = 0 → cntAt s = 0 := fun h => by
    unfold cntAt Lib.countByte
    rw [List.count_eq_zero]
    intro hm
    obtain ⟨j, hj, e⟩ := List.getElem_of_mem hm
    have hj' : j < s.size := by simpa using hj
    have h1 := (getC 64).1 (show s.data.toList[j]? = some 64 by rw [List.getElem?_eq_getElem hj, e])
    have h2 := site_perm h j hj'
    rw [h1.2] at h2
    exact absurd h2 (by decide)
  unfold adrP
  rw [hcnt, e0, hf, ht]
  by_cases hs : siteE s = 0
  · rw [hcs hs, if_neg (by omega), if_neg (by rw [show (⟨#[]⟩ ++ ⟨#[64]⟩ ++ s : ByteArray).extract 0 0 = ⟨#[]⟩ by simp; rfl, user_nil]; decide), if_neg (by rw [hs]; decide)]
    exact ⟨fun _ => hs, fun _ => rfl⟩
  · refine ⟨fun h => absurd ?_ hs, fun h => absurd h hs⟩
    split at h
    · cases h
    split at h
    · cases h
    exact h
theorem lsound_any (s : ByteArray) (w : World) (hs : s.size ≤ 1073741823) :
    Calls Tryz.prog 23 #[.string s] w fun e w' => e = .returned (.bool (decide (siteE s = 0))) ∧ K0 w w' := by
  have hz : (⟨#[64]⟩ ++ s : ByteArray).size ≤ 1073741824 := by rw [ByteArray.size_append, size_one]; omega
  have hz2 : ((⟨#[64]⟩ : ByteArray).size + s.size) ≤ 4611686018427387904 := by rw [size_one]; omega
  have hd := adr_at s
  refine vc_lsound s w _ ⟨nneg hz2, ?_⟩
  have hx := xaddr_any (⟨#[64]⟩ ++ s) w hz
  generalize adrP (⟨#[64]⟩ ++ s) = A at hx hd
  refine ⟨hx.mono fun e w1 ⟨he, k1⟩ => ⟨_, _, _, he, .of_k0 k1, fun n W hW => ⟨?_, k1.trans (hW.kk rfl)⟩⟩⟩
  congr 2
  rw [Bool.eq_iff_iff, beq_iff_eq, decide_eq_true_eq]
  exact hd

end Go.Proofs.YtmlmdljnfokebaaGreatDoor

/- Chapter 49, plain: a valid message is printed, and its text reads as it. No program in sight. -/
namespace Go.Proofs.YtmlmdljnfokebaaGreatDoor
open Go.RowKit

theorem prt_of {b : ByteArray} (h : ∀ j, j < b.size → visB (at8 b j) = true) : prtS b = true := all_at.2 fun j hj => by unfold prtB; rw [h j hj]; rfl
theorem fchk_ok {nm b : ByteArray} (hn : nameB nm = true) (hp : prtS b = true) (hq : squeeze b = b) (hs : b.size ≤ 8192) (hw : ∀ w ∈ words b, w.size ≤ 900) : fchk nm b = 0 := by
  have h2 : ¬ 0 ≤ prtN b := by
    have := prt_neg (s := b)
    rw [hp] at this
    simpa using this
  have h3 : ¬ (words b).any (fun x => decide (900 < x.size)) = true := fun h => by
    obtain ⟨x, hx, e⟩ := List.any_eq_true.1 h
    have := hw x hx
    simp at e; omega
  unfold fchk
  rw [if_neg (by rw [hn]; decide), if_neg h2, if_neg (by rw [hq]; exact fun h => h rfl), if_neg (fun h => h.elim (fun h => by omega) h3)]
theorem words_one {b : ByteArray} (h0 : 0 < b.size) (hv : ∀ j, j < b.size → visB (at8 b j) = true) : words b = [b] := by
  have := WF_word (s := b) (a := 0) (i := b.size) h0 (Nat.le_refl _) (fun j _ hj => vis_black (hv j hj)) (fun h => by omega)
  rw [WF_end (Nat.le_refl _)] at this
  have e : b.extract 0 b.size = b := by simp
  rw [e] at this
  exact this
theorem fchk_one {nm b : ByteArray} (hn : nameB nm = true) (h0 : 0 < b.size) (h1 : b.size ≤ 900) (hv : ∀ j, j < b.size → visB (at8 b j) = true) : fchk nm b = 0 := by
  have hw := words_one h0 hv
  exact fchk_ok hn (prt_of hv) (by unfold squeeze; rw [hw]; rfl) (by omega) (fun w h => by rw [hw] at h; simp at h; subst h; exact h1)
theorem user_vis {c : Int} (h : userC c = true) : visB c = true ∧ c ≠ 64 := by
  unfold userC lowerB digitB at h
  unfold visB
  simp only [Bool.or_eq_true, Bool.and_eq_true, decide_eq_true_eq, beq_iff_eq] at h ⊢
  omega
theorem perm_vis {c : Int} (h : permB c = true) : visB c = true ∧ c ≠ 64 := by
  unfold permB lowerB digitB at h
  unfold visB
  simp only [Bool.or_eq_true, Bool.and_eq_true, decide_eq_true_eq, beq_iff_eq] at h ⊢
  omega
theorem userB_all {s : ByteArray} (h : userB s = true) : ∀ j, j < s.size → userC (at8 s j) = true := by
  unfold userB at h
  simp only [Bool.and_eq_true] at h
  exact all_at.1 h.2
theorem siteE_pos {s : ByteArray} (h : siteE s = 0) : 0 < s.size := by
  unfold siteE siteS at h
  split at h
  · exact absurd h (by decide)
  · omega
theorem site_Gw {s : ByteArray} (h : siteE s = 0) : Gw s := ⟨siteE_pos h, by have := siteE_bd h; omega, fun j hj => (perm_vis (site_perm h j hj)).1⟩
theorem hops_site : ∀ (l seen : List ByteArray), hopsE seen l = 0 → ∀ h ∈ l, siteE h = 0
  | [], _, _ => fun h hm => by cases hm
  | x :: r, seen, hE => by
    unfold hopsE at hE
    split at hE
    · rename_i h1; exact absurd hE h1
    rename_i h1
    split at hE
    · cases hE
    intro h hm
    rcases List.mem_cons.1 hm with rfl | hm
    · exact Classical.byContradiction h1
    · exact hops_site r _ hE h hm
theorem joinT_sp (x : ByteArray) : ∀ r : List ByteArray, joinT 32 (x :: r) = x ++ spR r := by
  have key : ∀ (r : List ByteArray) (a : ByteArray), r.foldl (fun a y => a ++ ⟨#[32]⟩ ++ y) a = a ++ spR r := by
    intro r
    induction r with
    | nil => intro a; exact (app_nil a).symm
    | cons y r ih =>
      intro a
      show r.foldl (fun a y => a ++ ⟨#[32]⟩ ++ y) (a ++ ⟨#[32]⟩ ++ y) = a ++ (⟨#[32]⟩ ++ y ++ spR r)
      rw [ih]; simp only [ByteArray.append_assoc]
  exact fun r => key r x
theorem words_join : ∀ (l : List ByteArray), (∀ w ∈ l, Gw w) → words (joinT 32 l) = l
  | [], _ => rfl
  | x :: r, h => by
    obtain ⟨h1, h2, h3⟩ := h x List.mem_cons_self
    rw [joinT_sp]
    have hw := WF_sp r x (fun w hw => h w (List.mem_cons_of_mem _ hw))
    have hsz : (x ++ spR r : ByteArray).size = x.size + (spR r).size := ByteArray.size_append
    have := WF_word (s := x ++ spR r) (a := 0) (i := x.size) h1 (by omega) (fun j _ hj => by rw [at8_left hj]; exact vis_black (h3 j hj)) (fun hlt => by
      have e1 := at8_right (a := x) (b := spR r) (j := 0) (by omega)
      rw [Nat.add_zero] at e1
      rw [e1]
      cases r with
      | nil => exfalso; have : (spR []).size = 0 := rfl; omega
      | cons y r =>
        have : at8 (spR (y :: r)) 0 = 32 := by
          show at8 (⟨#[32]⟩ ++ y ++ spR r) 0 = 32
          rw [at8_left (by rw [ByteArray.size_append, size_one]; omega), at8_left (by rw [size_one]; omega), at8_one]; rfl
        rw [this]; exact blank_32)
    rw [hw] at this
    have e : (x ++ spR r).extract 0 x.size = x := by
      have := ByteArray.extract_append_eq_left (a := x) (b := spR r) rfl
      exact this
    rw [e] at this
    exact this
theorem decI_T {x : Int} (h : 0 ≤ x) : decI x = decT x.toNat := by
  unfold decI decT
  obtain ⟨n, rfl⟩ := Int.eq_ofNat_of_zero_le h
  rw [Lib.itoa_nonneg]; rfl
theorem dec_vis {x : Int} (h : 0 ≤ x) : 0 < (decI x).size ∧ ∀ j, j < (decI x).size → visB (at8 (decI x) j) = true := by
  rw [decI_T h]
  obtain ⟨⟨h1, h2, _⟩, _⟩ := decT_ok x.toNat
  refine ⟨h1, fun j hj => ?_⟩
  have := h2 j hj
  unfold visB
  simp only [Bool.and_eq_true, decide_eq_true_eq]
  omega
theorem numR_dec' {x M : Int} (h0 : 0 ≤ x) (h1 : x ≤ M) : numR (decI x) M = (x, 0) := by
  rw [decI_T h0]
  obtain ⟨h2, _, h3⟩ := decT_ok x.toNat
  unfold numR
  rw [if_pos h2, if_neg (by omega), h3, if_pos (by omega), Int.toNat_of_nonneg h0]
/-- What a valid message's parts are. -/
theorem chk_parts {m : Ml} (h : chkM m = 0) : subjE m.sj = 0 ∧ ∀ x ∈ m.hops, siteE x = 0 := by
  unfold chkM at h
  split at h
  · rename_i h1; exact absurd h h1
  split at h
  · rename_i h1; exact absurd h h1
  rename_i hs
  split at h
  · cases h
  split at h
  · rename_i h1; exact absurd h h1
  rename_i hh
  exact ⟨Classical.byContradiction hs, hops_site _ _ (Classical.byContradiction hh)⟩
theorem addr_vis {u s : ByteArray} (hu : userB u = true) (hs : siteE s = 0) : ∀ j, j < (u ++ ⟨#[64]⟩ ++ s : ByteArray).size → visB (at8 (u ++ ⟨#[64]⟩ ++ s) j) = true :=
  app_all (P := fun c => visB c = true) (app_all (P := fun c => visB c = true) (fun j hj => (user_vis (userB_all hu j hj)).1) (one_all (P := fun c => visB c = true) (by decide))) (fun j hj => (perm_vis (site_perm hs j hj)).1)
theorem hd_chk {m : Ml} (h : chkM m = 0) : ∀ x ∈ hdM m, fchk x.1 x.2 = 0 := by
  obtain ⟨z1, z2, z3, z4, z5, z6, z7, z8, z9, z10, z11, z12⟩ := chkM_bd h
  obtain ⟨p1, p2, p3, p4⟩ := env_parts h
  obtain ⟨q1, q2⟩ := chk_parts h
  intro x hx
  simp only [hdM, List.mem_cons, List.not_mem_nil, or_false] at hx
  rcases hx with rfl | rfl | rfl | rfl | rfl | rfl
  · exact fchk_one (show nameB ⟨#[70, 114, 111, 109]⟩ = true by decide +kernel) (by simp only [ByteArray.size_append, size_one]; omega) (by simp only [ByteArray.size_append, size_one]; omega) (addr_vis p1 p2)
  · exact fchk_one (show nameB ⟨#[84, 111]⟩ = true by decide +kernel) (by simp only [ByteArray.size_append, size_one]; omega) (by simp only [ByteArray.size_append, size_one]; omega) (addr_vis p3 p4)
  · have hd := decI_size (x := m.n) ⟨by omega, by omega⟩
    exact fchk_one (show nameB ⟨#[78, 117, 109, 98, 101, 114]⟩ = true by decide +kernel) (dec_vis z5).1 (by show (decI m.n).size ≤ 900; omega) (dec_vis z5).2
  · have hd := decI_size (x := m.d) ⟨by omega, by omega⟩
    exact fchk_one (show nameB ⟨#[68, 97, 116, 101]⟩ = true by decide +kernel) (dec_vis z7).1 (by show (decI m.d).size ≤ 900; omega) (dec_vis z7).2
  · have hg : ∀ w ∈ m.hops, Gw w := fun w hw => site_Gw (q2 w hw)
    have hw := words_join m.hops hg
    have hj := joinT_size 32 m.hops
    refine fchk_ok (show nameB ⟨#[72, 111, 112, 115]⟩ = true by decide +kernel) ?_ (by show squeeze (joinT 32 m.hops) = joinT 32 m.hops; unfold squeeze; rw [hw]) (by show (joinT 32 m.hops).size ≤ 8192; omega) (fun w h => by have h : w ∈ words (joinT 32 m.hops) := h; rw [hw] at h; exact (hg w h).2.1)
    show prtS (joinT 32 m.hops) = true
    cases hl : m.hops with
    | nil => rfl
    | cons x r =>
      rw [joinT_sp]
      rw [hl] at hg
      refine all_at.2 (app_all (P := fun c => prtB c = true) (fun j hj => by unfold prtB; rw [(hg x List.mem_cons_self).2.2 j hj]; rfl) ?_)
      have key : ∀ (r : List ByteArray), (∀ w ∈ r, Gw w) → ∀ j, j < (spR r).size → prtB (at8 (spR r) j) = true := by
        intro r
        induction r with
        | nil => intro _; exact nil_all (P := fun c => prtB c = true)
        | cons y r ih =>
          intro hg
          exact app_all (P := fun c => prtB c = true) (app_all (P := fun c => prtB c = true) (one_all (P := fun c => prtB c = true) (by decide)) (fun j hj => by unfold prtB; rw [(hg y List.mem_cons_self).2.2 j hj]; rfl)) (ih fun w hw => hg w (List.mem_cons_of_mem _ hw))
      exact key r (fun w hw => hg w (List.mem_cons_of_mem _ hw))
  · unfold subjE at q1
    split at q1
    · cases q1
    split at q1
    · cases q1
    rename_i a1
    split at q1
    · cases q1
    rename_i a2
    refine fchk_ok (show nameB ⟨#[83, 117, 98, 106, 101, 99, 116]⟩ = true by decide +kernel) (by simpa using a1) (Classical.byContradiction a2) (by show m.sj.size ≤ 8192; omega) (fun w h => ?_)
    obtain ⟨a, e, _, he, rfl, _⟩ := words_mem _ _ _ w h
    have he : e ≤ m.sj.size := he
    rw [ByteArray.size_extract]; omega
/-- A message's header. -/
def hdT (m : Ml) : ByteArray := catL (hdrL (hdM m))
theorem hdrL_size : ∀ l : List Fd, (catL (hdrL l)).size ≤ (l.map fun x => x.1.size + 2 + 3 * x.2.size).sum
  | [] => Nat.le_refl _
  | x :: l => by
    show (catL (foldLs (words x.2) 0 (x.1 ++ ⟨#[58]⟩) ++ hdrL l)).size ≤ _
    have e : catL (foldLs (words x.2) 0 (x.1 ++ ⟨#[58]⟩)) = foldT x.1 x.2 := by unfold foldT; rw [foldW_eq, nil_app]
    have h1 := foldW_size (words x.2) 0 (x.1 ++ ⟨#[58]⟩) ⟨#[]⟩
    have h2 := wordsF_sum x.2 x.2.size 0 (by omega)
    have e0 : (⟨#[]⟩ : ByteArray).size = 0 := rfl
    rw [e0, ByteArray.size_append, size_one] at h1
    have h3 := hdrL_size l
    rw [catL_app, ByteArray.size_append, e, List.map_cons, List.sum_cons]
    unfold foldT
    unfold words at *
    omega
theorem hdT_size {m : Ml} (h : chkM m = 0) : (hdT m).size ≤ 4000 := by
  obtain ⟨z1, z2, z3, z4, z5, z6, z7, z8, z9, z10, z11, z12⟩ := chkM_bd h
  have h1 := hdrL_size (hdM m)
  have hd1 := decI_size (x := m.n) ⟨by omega, by omega⟩
  have hd2 := decI_size (x := m.d) ⟨by omega, by omega⟩
  have hj := joinT_size 32 m.hops
  unfold hdT
  have e4 : (⟨#[70, 114, 111, 109]⟩ : ByteArray).size = 4 := rfl
  have e2 : (⟨#[84, 111]⟩ : ByteArray).size = 2 := rfl
  have e6 : (⟨#[78, 117, 109, 98, 101, 114]⟩ : ByteArray).size = 6 := rfl
  have e3 : (⟨#[68, 97, 116, 101]⟩ : ByteArray).size = 4 := rfl
  have e5 : (⟨#[72, 111, 112, 115]⟩ : ByteArray).size = 4 := rfl
  have e7 : (⟨#[83, 117, 98, 106, 101, 99, 116]⟩ : ByteArray).size = 7 := rfl
  simp only [hdM, List.map_cons, List.map_nil, List.sum_cons, List.sum_nil, ByteArray.size_append, size_one, e4, e2, e6, e3, e5, e7] at h1
  show (catL (hdrL (hdM m))).size ≤ 4000
  unfold hdM
  omega
theorem prM_ok {m : Ml} (h : chkM m = 0) : prM m = (hdT m ++ ⟨#[10]⟩ ++ m.bd, 0) := by
  have hf := fpr_cat (hdM m) ⟨#[]⟩ (hd_chk h)
  have hs := hdT_size h
  rw [nil_app, if_neg (by unfold hdT at hs; omega)] at hf
  unfold prM
  rw [if_neg (by rw [h]; decide), hf, if_neg (by simp)]; rfl
theorem hd_lns {m : Ml} (h : chkM m = 0) : lnsP (hdrL (hdM m)) [] = some (hdM m) := lns_hdr (hdM m) [] (hd_chk h) (by show 0 + 6 ≤ 64; omega)
theorem prs_hd {m : Ml} (h : chkM m = 0) : prs (hdT m) = (hdM m, 0, 0) := by
  have hs := hdT_size h
  have h1 := prsR_cat (hdrL (hdM m)) ⟨#[]⟩ [] (hdM m) (hd_lns h)
  rw [nil_app] at h1
  unfold prs
  rw [if_neg (by omega)]
  exact h1
theorem hdT_nn {m : Ml} (h : chkM m = 0) : (∀ i, ¬ NN (hdT m) i) ∧ 0 < (hdT m).size ∧ at8 (hdT m) ((hdT m).size - 1) = 10 := by
  obtain ⟨h1, h2⟩ := cat_nn (hdrL (hdM m)) (lns_lines _ _ _ (hd_lns h))
  have h0 : 0 < (hdT m).size := by
    show 0 < (catL (foldLs _ 0 _ ++ _)).size
    rw [catL_app, ByteArray.size_append, ← nil_app (catL (foldLs _ _ _)), ← foldW_eq]
    have key : ∀ (ws : List ByteArray) (k : Nat) (line text : ByteArray), 0 < (foldW ws k line text).size := by
      intro ws
      induction ws with
      | nil => intro k line text; show 0 < (text ++ (line ++ ⟨#[10]⟩) : ByteArray).size; simp only [ByteArray.size_append, size_one]; omega
      | cons w r ih => intro k line text; unfold foldW; split <;> exact ih _ _ _
    exact Nat.lt_of_lt_of_le (key _ _ _ _) (Nat.le_add_right _ _)
  exact ⟨h1, h0, (h2 h0).2⟩

/-! ### The message that a header denotes -/
def readM (l : List Fd) : Option Ml := match l with
  | [f0, f1, f2, f3, f4, f5] => if (adrP f0.2).2 ≠ 0 ∨ (adrP f1.2).2 ≠ 0 ∨ (numR f2.2 2147483647).2 ≠ 0 ∨ (numR f3.2 105190559).2 ≠ 0 then none else
      some ⟨(adrP f0.2).1.1, (adrP f0.2).1.2, (adrP f1.2).1.1, (adrP f1.2).1.2, (numR f2.2 2147483647).1, (numR f3.2 105190559).1, f5.2, words f4.2, ⟨#[]⟩⟩
  | _ => none
theorem adr_ok {u s : ByteArray} (hu : userB u = true) (hs : siteE s = 0) : adrP (u ++ ⟨#[64]⟩ ++ s) = ((u, s), 0) := by
  have nu : ∀ j, j < u.size → at8 u j ≠ 64 := fun j hj => (user_vis (userB_all hu j hj)).2
  have ns : ∀ j, j < s.size → at8 s j ≠ 64 := fun j hj => (perm_vis (site_perm hs j hj)).2
  have c0 : ∀ {b : ByteArray}, (∀ j, j < b.size → at8 b j ≠ 64) → List.count 64 b.data.toList = 0 := fun {b} hb => by
    rw [List.count_eq_zero]
    intro hm
    obtain ⟨j, hj, e⟩ := List.getElem_of_mem hm
    have hj' : j < b.size := by simpa using hj
    have := (getC 64).1 (show b.data.toList[j]? = some 64 by rw [List.getElem?_eq_getElem hj, e])
    exact hb j hj' this.2
  have hc : cntAt (u ++ ⟨#[64]⟩ ++ s) = 1 := by
    unfold cntAt Lib.countByte
    rw [ByteArray.data_append, ByteArray.data_append, Array.toList_append, Array.toList_append, List.count_append, List.count_append, c0 nu, c0 ns]; rfl
  have hf : findC 64 (u ++ ⟨#[64]⟩ ++ s) = u.size := (findC_first 64 _).uniq (first_app (c := 64) (a := u) (rest := s) nu)
  have ht : (u ++ ⟨#[64]⟩ ++ s : ByteArray).extract (u.size + 1) (u ++ ⟨#[64]⟩ ++ s : ByteArray).size = s := app_tail (c := 64) (a := u) (rest := s)
  unfold adrP
  rw [if_neg (by omega), hf, app_head (c := 64), ht, if_neg (by rw [hu]; decide), if_neg (by rw [hs]; decide)]
theorem read_hd {m : Ml} (h : chkM m = 0) : readM (hdM m) = some ⟨m.fu, m.fs, m.tu, m.ts, m.n, m.d, m.sj, m.hops, ⟨#[]⟩⟩ := by
  obtain ⟨z1, z2, z3, z4, z5, z6, z7, z8, z9, z10, z11, z12⟩ := chkM_bd h
  obtain ⟨p1, p2, p3, p4⟩ := env_parts h
  obtain ⟨_, q2⟩ := chk_parts h
  unfold hdM readM
  simp only [adr_ok p1 p2, adr_ok p3 p4, numR_dec' z5 z6, numR_dec' z7 z8, words_join m.hops (fun w hw => site_Gw (q2 w hw))]
  rw [if_neg (by simp)]

end Go.Proofs.YtmlmdljnfokebaaGreatDoor

/- Chapter 49, plain: what Parse answers; the reference, which ignores the errors of single fields, answers the same. No program in sight. -/
namespace Go.Proofs.YtmlmdljnfokebaaGreatDoor
open Go.RowKit

/-! ### Where the header ends -/
def nnB (s : ByteArray) (i : Nat) : Bool := decide (i + 1 < s.size) && (at8 s i == 10 && at8 s (i + 1) == 10)
theorem nnB_iff {s : ByteArray} {i : Nat} : nnB s i = true ↔ NN s i := by
  unfold nnB NN
  simp only [Bool.and_eq_true, decide_eq_true_eq, beq_iff_eq]
def nnF (s : ByteArray) : Nat → Nat → Nat
  | 0, _ => s.size
  | f + 1, i => if nnB s i = true then i else nnF s f (i + 1)
/-- The first place of two line feeds, or the size. -/
def nnN (s : ByteArray) : Nat := nnF s s.size 0
def FirstNN (s : ByteArray) (r : Nat) : Prop := (r = s.size ∧ ∀ i, ¬ NN s i) ∨ (NN s r ∧ ∀ j, j < r → ¬ NN s j)
theorem nnF_first (s : ByteArray) : ∀ (f i : Nat), s.size ≤ i + f → (∀ j, j < i → ¬ NN s j) → FirstNN s (nnF s f i)
  | 0, i, h, hp => .inl ⟨rfl, fun j hj => by
    by_cases e : j < i
    · exact hp j e hj
    · have := hj.1; omega⟩
  | f + 1, i, h, hp => by
    unfold nnF
    by_cases e : nnB s i = true
    · rw [if_pos e]; exact .inr ⟨nnB_iff.1 e, hp⟩
    · rw [if_neg e]
      refine nnF_first s f (i + 1) (by omega) fun j hj hn => ?_
      by_cases e2 : j = i
      · subst e2; exact e (nnB_iff.2 hn)
      · exact hp j (by omega) hn
theorem nn_first (s : ByteArray) : FirstNN s (nnN s) := nnF_first s s.size 0 (by omega) (fun j h => by omega)
theorem FirstNN.uniq {s : ByteArray} {a b : Nat} (h : FirstNN s a) (g : FirstNN s b) : a = b := by
  rcases h with ⟨h1, h2⟩ | ⟨h1, h2⟩ <;> rcases g with ⟨g1, g2⟩ | ⟨g1, g2⟩
  · omega
  · exact absurd g1 (h2 _)
  · exact absurd h1 (g2 _)
  · rcases Nat.lt_trichotomy a b with e | e | e
    · exact absurd h1 (g2 _ e)
    · exact e
    · exact absurd g1 (h2 _ e)
theorem nn_none {s : ByteArray} (h : ∀ i, ¬ NN s i) : nnN s = s.size := (nn_first s).uniq (.inl ⟨rfl, h⟩)
theorem nn_at {s : ByteArray} {r : Nat} (h : NN s r) (g : ∀ j, j < r → ¬ NN s j) : nnN s = r := (nn_first s).uniq (.inr ⟨h, g⟩)
theorem nn_lt {s : ByteArray} (h : ¬ nnN s = s.size) : nnN s + 1 < s.size := by
  rcases nn_first s with ⟨h1, _⟩ | ⟨h1, _⟩
  · exact absurd h1 h
  · exact h1.1

/-! ### The answers -/
def bodyM (m : Ml) (b : ByteArray) : Ml := ⟨m.fu, m.fs, m.tu, m.ts, m.n, m.d, m.sj, m.hops, b⟩
def finM (m : Ml) (s : ByteArray) : Ml × Int × Int := if (prM m).2 ≠ 0 ∨ (prM m).1 ≠ s then (mz, 0, 3) else (m, 0, 0)
def mpP (s : ByteArray) : Ml × Int × Int :=
  if nnN s = s.size then (mz, (s.size : Int), 4) else
  if (prs (s.extract 0 (nnN s + 1))).2.2 ≠ 0 then (mz, (prs (s.extract 0 (nnN s + 1))).2.1, (prs (s.extract 0 (nnN s + 1))).2.2) else
  match readM (prs (s.extract 0 (nnN s + 1))).1 with
  | none => (mz, 0, 3)
  | some m => finM (bodyM m (s.extract (nnN s + 2) s.size)) s
/-- The reference's message: the errors of the fields are not asked. -/
def rawM (f0 f1 f2 f3 f4 f5 : Fd) (b : ByteArray) : Ml := ⟨(adrP f0.2).1.1, (adrP f0.2).1.2, (adrP f1.2).1.1, (adrP f1.2).1.2, (numR f2.2 2147483647).1, (numR f3.2 105190559).1, f5.2, words f4.2, b⟩
def xpP (s : ByteArray) : Ml × Int × Int :=
  if nnN s = s.size then (mz, (s.size : Int), 4) else
  if (prs (s.extract 0 (nnN s + 1))).2.2 ≠ 0 then (mz, (prs (s.extract 0 (nnN s + 1))).2.1, (prs (s.extract 0 (nnN s + 1))).2.2) else
  match (prs (s.extract 0 (nnN s + 1))).1 with
  | [f0, f1, f2, f3, f4, f5] => finM (rawM f0 f1 f2 f3 f4 f5 (s.extract (nnN s + 2) s.size)) s
  | _ => (mz, 0, 3)
theorem prM_err {m : Ml} (h : (prM m).2 = 0) : chkM m = 0 := Classical.byContradiction fun hc => by
  unfold prM at h
  rw [if_pos hc] at h
  exact hc h
theorem nn_hd {m : Ml} (h : chkM m = 0) (b : ByteArray) : nnN (hdT m ++ ⟨#[10]⟩ ++ b) + 1 = (hdT m).size := by
  obtain ⟨h1, h2, h3⟩ := hdT_nn h
  have hsz : (hdT m ++ ⟨#[10]⟩ ++ b : ByteArray).size = (hdT m).size + 1 + b.size := by simp only [ByteArray.size_append, size_one]
  have hl : ∀ j, j < (hdT m).size → at8 (hdT m ++ ⟨#[10]⟩ ++ b) j = at8 (hdT m) j := fun j hj => by
    rw [at8_left (by rw [ByteArray.size_append, size_one]; omega), at8_left hj]
  have hm : at8 (hdT m ++ ⟨#[10]⟩ ++ b) (hdT m).size = 10 := by
    have := at8_mid (a := hdT m) (b := ⟨#[10]⟩) (c := b) (j := 0) (by rw [size_one]; omega)
    rw [Nat.add_zero] at this
    rw [this, at8_one]; rfl
  have e : nnN (hdT m ++ ⟨#[10]⟩ ++ b) = (hdT m).size - 1 := by
    refine nn_at ⟨by omega, ?_, ?_⟩ (fun j hj hn => h1 j ⟨by omega, ?_, ?_⟩)
    · rw [hl _ (by omega), h3]
    · rw [show (hdT m).size - 1 + 1 = (hdT m).size by omega, hm]
    · have := hn.2.1; rw [hl _ (by omega)] at this; exact this
    · have := hn.2.2; rw [hl _ (by omega)] at this; exact this
  omega
theorem hd_cut {m : Ml} (h : chkM m = 0) (b : ByteArray) : (hdT m ++ ⟨#[10]⟩ ++ b).extract 0 (nnN (hdT m ++ ⟨#[10]⟩ ++ b) + 1) = hdT m := by
  rw [nn_hd h b, ByteArray.append_assoc]
  generalize hdT m = x
  generalize (⟨#[10]⟩ : ByteArray) ++ b = y
  have := ByteArray.extract_append_eq_left (a := x) (b := y) rfl
  exact this
theorem bd_cut {m : Ml} (h : chkM m = 0) (b : ByteArray) : (hdT m ++ ⟨#[10]⟩ ++ b).extract (nnN (hdT m ++ ⟨#[10]⟩ ++ b) + 2) (hdT m ++ ⟨#[10]⟩ ++ b).size = b := by
  have e := nn_hd h b
  generalize hdT m = x at e ⊢
  have e1 : nnN (x ++ ⟨#[10]⟩ ++ b) + 2 = x.size + 1 := by omega
  rw [e1]
  exact app_tail (c := 10) (a := x) (rest := b)
/-- A printed message is read as it was. -/
theorem mp_pr {m : Ml} (h : (prM m).2 = 0) : mpP (prM m).1 = (m, 0, 0) := by
  have hc := prM_err h
  have hp := prM_ok hc
  have h1 := nn_hd hc m.bd
  have hsz : (hdT m ++ ⟨#[10]⟩ ++ m.bd : ByteArray).size = (hdT m).size + 1 + m.bd.size := by simp only [ByteArray.size_append, size_one]
  have e1 : (prM m).1 = hdT m ++ ⟨#[10]⟩ ++ m.bd := by rw [hp]
  rw [e1]
  unfold mpP
  rw [if_neg (by omega), hd_cut hc, bd_cut hc, prs_hd hc, if_neg (by simp), read_hd hc]
  show finM m _ = _
  unfold finM
  rw [hp, if_neg (by simp)]
theorem fin_some {m : Ml} {s : ByteArray} (hf : ¬ ((prM m).2 ≠ 0 ∨ (prM m).1 ≠ s)) : (prs (s.extract 0 (nnN s + 1))).1 = hdM m ∧ chkM m = 0 := by
  have hz : (prM m).2 = 0 := Classical.byContradiction fun e => hf (.inl e)
  have hs : (prM m).1 = s := Classical.byContradiction fun e => hf (.inr e)
  have hc := prM_err hz
  rw [← hs, prM_ok hc]
  refine ⟨?_, hc⟩
  show (prs ((hdT m ++ ⟨#[10]⟩ ++ m.bd).extract 0 (nnN (hdT m ++ ⟨#[10]⟩ ++ m.bd) + 1))).1 = hdM m
  rw [hd_cut hc, prs_hd hc]
theorem xp_mp (s : ByteArray) : xpP s = mpP s := by
  unfold xpP mpP
  by_cases h1 : nnN s = s.size
  · rw [if_pos h1, if_pos h1]
  rw [if_neg h1, if_neg h1]
  by_cases h2 : (prs (s.extract 0 (nnN s + 1))).2.2 ≠ 0
  · rw [if_pos h2, if_pos h2]
  rw [if_neg h2, if_neg h2]
  have hk : ∀ m : Ml, ¬ ((prM m).2 ≠ 0 ∨ (prM m).1 ≠ s) → (prs (s.extract 0 (nnN s + 1))).1 = hdM m ∧ chkM m = 0 := fun m hm => fin_some hm
  generalize (prs (s.extract 0 (nnN s + 1))).1 = l at hk
  match l, hk with
  | [], _ => rfl
  | [_], _ => rfl
  | [_, _], _ => rfl
  | [_, _, _], _ => rfl
  | [_, _, _, _], _ => rfl
  | [_, _, _, _, _], _ => rfl
  | _ :: _ :: _ :: _ :: _ :: _ :: _ :: _, _ => rfl
  | [f0, f1, f2, f3, f4, f5], hk =>
    show finM (rawM f0 f1 f2 f3 f4 f5 (s.extract (nnN s + 2) s.size)) s = match readM [f0, f1, f2, f3, f4, f5] with
      | none => (mz, 0, 3)
      | some m => finM (bodyM m (s.extract (nnN s + 2) s.size)) s
    by_cases he : (adrP f0.2).2 ≠ 0 ∨ (adrP f1.2).2 ≠ 0 ∨ (numR f2.2 2147483647).2 ≠ 0 ∨ (numR f3.2 105190559).2 ≠ 0
    · have hr : readM [f0, f1, f2, f3, f4, f5] = none := if_pos he
      rw [hr]
      show finM _ s = (mz, 0, 3)
      unfold finM
      by_cases hf : (prM (rawM f0 f1 f2 f3 f4 f5 (s.extract (nnN s + 2) s.size))).2 ≠ 0 ∨ (prM (rawM f0 f1 f2 f3 f4 f5 (s.extract (nnN s + 2) s.size))).1 ≠ s
      · rw [if_pos hf]
      · obtain ⟨k1, k2⟩ := hk _ hf
        rw [k1, read_hd k2] at hr
        cases hr
    · have hr : readM [f0, f1, f2, f3, f4, f5] = some _ := if_neg he
      rw [hr]; rfl
/-- What is read, prints as the text. -/
theorem mp_ok {s : ByteArray} (h : (mpP s).2.2 = 0) : prM (mpP s).1 = (s, 0) := by
  unfold mpP at h ⊢
  by_cases h1 : nnN s = s.size
  · rw [if_pos h1] at h; cases h
  rw [if_neg h1] at h ⊢
  by_cases h2 : (prs (s.extract 0 (nnN s + 1))).2.2 ≠ 0
  · rw [if_pos h2] at h; exact absurd h h2
  rw [if_neg h2] at h ⊢
  cases hr : readM (prs (s.extract 0 (nnN s + 1))).1 with
  | none => rw [hr] at h; cases h
  | some m =>
    rw [hr] at h
    show prM (finM (bodyM m (s.extract (nnN s + 2) s.size)) s).1 = _
    have h : (finM (bodyM m (s.extract (nnN s + 2) s.size)) s).2.2 = 0 := h
    generalize bodyM m (s.extract (nnN s + 2) s.size) = x at h ⊢
    unfold finM at h ⊢
    by_cases hf : (prM x).2 ≠ 0 ∨ (prM x).1 ≠ s
    · rw [if_pos hf] at h; cases h
    · rw [if_neg hf]
      have hz : (prM x).2 = 0 := Classical.byContradiction fun e => hf (.inl e)
      have hs : (prM x).1 = s := Classical.byContradiction fun e => hf (.inr e)
      show prM x = (s, 0)
      rw [← hs, ← hz]

end Go.Proofs.YtmlmdljnfokebaaGreatDoor

/- The formulas of functions by the symbolic evaluator, and that each gives the call's contract. Written by a program (gen.py). No condition. -/
namespace Go.Proofs.YtmlmdljnfokebaaGreatDoor
set_option maxRecDepth 100000
set_option linter.unusedVariables false

def VC_pfail (b : Nat) (o : Nat) (at_ : Int) (er : Int) (w : World) (R : Ending → World → Prop) : Prop :=
 ∃ (x : Int),
 w.cell? (Addr.mk b (o + 5) none) = some (Value.int IntKind.i64 x) ∧
 bsp (x == 0)
 (((∃ (u : Value), w.cell? (Addr.mk b (o + 3) none) = some u) ∧ w.frozen? (Addr.mk b (o + 3) none) = false) ∧
 ∀ (w1 : World),
 PutB w b (o + 3) [Value.int IntKind.i64 at_] w1 →
 KeptL [] w w1 ∧
 ((∃ (u : Value), w1.cell? (Addr.mk b (o + 5) none) = some u) ∧ w1.frozen? (Addr.mk b (o + 5) none) = false) ∧
 ∀ (w1_1 : World),
 PutB w1 b (o + 5) [Value.int IntKind.i64 er] w1_1 →
 KeptL [] w1 w1_1 ∧ R (Ending.returned (Value.tuple #[])) w1_1)
 (R (Ending.returned (Value.tuple #[])) w)
theorem vc_pfail (b : Nat) (o : Nat) (at_ : Int) (er : Int) (w : World) (R : Ending → World → Prop) (h : VC_pfail b o at_ er w R) : Calls Tryz.prog 106 ([Value.pointer
    (some { block := b, off := o }),
  Value.int IntKind.i64 at_, Value.int IntKind.i64 er] : List Value).toArray w R := by
  have e : execR2 { P := Tryz.prog, loops := [], pur := purM, tails := [], joins := [], boxes := [] } Tryz.f106.results.toList R (Tryz.f106.body.getD .skip) (initF [Value.pointer
    (some { block := b, off := o }),
  Value.int IntKind.i64 at_,
  Value.int IntKind.i64
    er] (Tryz.f106.ntmps - ([Value.pointer (some { block := b, off := o }), Value.int IntKind.i64 at_,
  Value.int IntKind.i64 er] : List Value).length)) w = VC_pfail b o at_ er w R := by kernel_rfl
  have hb : Tryz.f106.body = some (Tryz.f106.body.getD .skip) := by kernel_rfl
  exact calls_of_exec2' (P := Tryz.prog) (fn := Tryz.f106) (c := Tryz.f106.body.getD .skip) (args := [Value.pointer
    (some { block := b, off := o }),
  Value.int IntKind.i64 at_, Value.int IntKind.i64 er]) (w := w) (R := R) purM_ok Tryz.func106 hb e h

def VC_plineC (c : Int) (w : World) (R : Ending → World → Prop) : Prop :=
 R (Ending.returned (Value.bool (!visB c && !blankB c))) w
theorem vc_plineC (c : Int) (w : World) (R : Ending → World → Prop) (h : VC_plineC c w R) : Calls Tryz.prog 107 ([Value.int
    IntKind.u8 c] : List Value).toArray w R := by
  have e : execR2 { P := Tryz.prog, loops := [], pur := purM, tails := [], joins := [], boxes := [] } Tryz.f107.results.toList R (Tryz.f107.body.getD .skip) (initF [Value.int
    IntKind.u8
    c] (Tryz.f107.ntmps - ([Value.int IntKind.u8 c] : List Value).length)) w = VC_plineC c w R := by kernel_rfl
  have hb : Tryz.f107.body = some (Tryz.f107.body.getD .skip) := by kernel_rfl
  exact calls_of_exec2' (P := Tryz.prog) (fn := Tryz.f107) (c := Tryz.f107.body.getD .skip) (args := [Value.int
    IntKind.u8 c]) (w := w) (R := R) purM_ok Tryz.func107 hb e h

def VC_pline (b : Nat) (o : Nat) (from_ : Int) (w : World) (R : Ending → World → Prop) : Prop :=
 ∃ (x : Int),
 w.cell? (Addr.mk b (o + 5) none) = some (Value.int IntKind.i64 x) ∧
 bsp (x != 0) (R (Ending.returned (Value.tuple #[])) w)
 (∃ (x : ByteArray),
 w.cell? (Addr.mk b o none) = some (Value.string x) ∧
 (0 ≤ from_ ∧ from_ ≤ (↑x.size : Int)) ∧
 CallsS Tryz.prog 105 #[Value.string (x.extract from_.toNat x.size), Value.int IntKind.u8 10] w
 fun (e : Ending) (w' : World) =>
 ∃ (x : Int),
 e = Ending.returned (Value.int IntKind.i64 x) ∧
 KeptL [] w w' ∧
 bsp (decide (x < 0))
 (∃ (x : ByteArray),
 w'.cell? (Addr.mk b o none) = some (Value.string x) ∧
 CallsS Tryz.prog 106
 #[Value.pointer (some (Addr.mk b o none)), Value.int IntKind.i64 (↑x.size : Int), Value.int IntKind.i64 4]
 w' fun (e : Ending) (w'_1 : World) =>
 e = Ending.returned (Value.tuple #[]) ∧ KeptL [] w' w'_1 ∧ R (Ending.returned (Value.tuple #[])) w'_1)
 (((∃ (u : Value), w'.cell? (Addr.mk b (o + 1) none) = some u) ∧
 w'.frozen? (Addr.mk b (o + 1) none) = false) ∧
 ∀ (w1 : World),
 PutB w' b (o + 1) [Value.int IntKind.i64 from_] w1 →
 KeptL [] w' w1 ∧
 ((∃ (u : Value), w1.cell? (Addr.mk b (o + 2) none) = some u) ∧
 w1.frozen? (Addr.mk b (o + 2) none) = false) ∧
 ∀ (w1_1 : World),
 PutB w1 b (o + 2) [Value.int IntKind.i64 (IntKind.i64.wrap (from_ + x))] w1_1 →
 KeptL [] w1 w1_1 ∧
 ((∃ (u : Value), w1_1.cell? (Addr.mk b (o + 3) none) = some u) ∧
 w1_1.frozen? (Addr.mk b (o + 3) none) = false) ∧
 ∀ (w1 : World),
 PutB w1_1 b (o + 3) [Value.int IntKind.i64 from_] w1 →
 KeptL [] w1_1 w1 ∧
 bsp (decide (x > 998))
 (CallsS Tryz.prog 106
 #[Value.pointer (some (Addr.mk b o none)),
 Value.int IntKind.i64 (IntKind.i64.wrap (from_ + 998)), Value.int IntKind.i64 5]
 w1 fun (e : Ending) (w' : World) =>
 e = Ending.returned (Value.tuple #[]) ∧
 KeptL [] w1 w' ∧ R (Ending.returned (Value.tuple #[])) w')
 (∀ (W : World),
 Loc w.heap.size [] w1 W →
 ∃ (S : World → Prop),
 S W ∧
 ∃ (x : ByteArray),
 (∀ (w' : World), S w' → w'.cell? (Addr.mk b o none) = some (Value.string x)) ∧
 ∃ (x_1 : Int),
 (∀ (w' : World),
 S w' → w'.cell? (Addr.mk b (o + 2) none) = some (Value.int IntKind.i64 x_1)) ∧
 (0 ≤ from_ ∧ from_ ≤ x_1 ∧ x_1 ≤ (↑x.size : Int)) ∧
 ∀ (c n : Nat) (w1 : World),
 (x.extract from_.toNat x_1.toNat).size ≤ c →
 NewB W.drew
 (Obj.cells (bytesRow (x.extract from_.toNat x_1.toNat) c) 5
 ((bytesRow (x.extract from_.toNat x_1.toNat) c).size,
 (bytesRow (x.extract from_.toNat x_1.toNat) c).size + 1))
 n w1 →
 CallsS Tryz.prog 109
 #[Value.slice (some (Addr.mk n 0 none)) (x.extract from_.toNat x_1.toNat).size c,
 Value.func (Fn.func 107) #[] #[]]
 w1 fun (e : Ending) (w' : World) =>
 ∃ (x : Int),
 e = Ending.returned (Value.int IntKind.i64 x) ∧
 KeptL [] W w' ∧
 bsp (decide (x ≥ 0))
 (CallsS Tryz.prog 106
 #[Value.pointer (some (Addr.mk b o none)),
 Value.int IntKind.i64 (IntKind.i64.wrap (from_ + x)),
 Value.int IntKind.i64 6]
 w' fun (e : Ending) (w'_1 : World) =>
 e = Ending.returned (Value.tuple #[]) ∧
 KeptL [] w' w'_1 ∧ R (Ending.returned (Value.tuple #[])) w'_1)
 (R (Ending.returned (Value.tuple #[])) w'))))
theorem vc_pline (b : Nat) (o : Nat) (from_ : Int) (w : World) (R : Ending → World → Prop) (h : VC_pline b o from_ w R) : Calls Tryz.prog 64 ([Value.pointer
    (some { block := b, off := o }),
  Value.int IntKind.i64 from_] : List Value).toArray w R := by
  have e : execR2 { P := Tryz.prog, loops := [], pur := purM, tails := [(8, 10)], joins := [], boxes := [] } Tryz.f64.results.toList R (Tryz.f64.body.getD .skip) (initF [Value.pointer
    (some { block := b, off := o }),
  Value.int IntKind.i64
    from_] (Tryz.f64.ntmps - ([Value.pointer (some { block := b, off := o }),
  Value.int IntKind.i64 from_] : List Value).length)) w = VC_pline b o from_ w R := by kernel_rfl
  have hb : Tryz.f64.body = some (Tryz.f64.body.getD .skip) := by kernel_rfl
  exact calls_of_exec2' (P := Tryz.prog) (fn := Tryz.f64) (c := Tryz.f64.body.getD .skip) (args := [Value.pointer
    (some { block := b, off := o }),
  Value.int IntKind.i64 from_]) (w := w) (R := R) purM_ok Tryz.func64 hb e h

def VC_pname (b : Nat) (o : Nat) (w : World) (R : Ending → World → Prop) : Prop :=
 ∃ (x : Int),
 w.cell? (Addr.mk b (o + 5) none) = some (Value.int IntKind.i64 x) ∧
 bsp (x != 0) (R (Ending.returned (Value.tuple #[])) w)
 (∃ (x : ByteArray),
 (∀ (W : World), Loc w.heap.size [] w W → W.cell? (Addr.mk b o none) = some (Value.string x)) ∧
 ∃ (x_1 : Int),
 (∀ (W : World), Loc w.heap.size [] w W → W.cell? (Addr.mk b (o + 1) none) = some (Value.int IntKind.i64 x_1)) ∧
 ∃ (x_2 : Int),
 (∀ (W : World), Loc w.heap.size [] w W → W.cell? (Addr.mk b (o + 2) none) = some (Value.int IntKind.i64 x_2)) ∧
 (0 ≤ x_1 ∧ x_1 ≤ x_2 ∧ x_2 ≤ (↑x.size : Int)) ∧
 gimp (!(x.extract x_1.toNat x_2.toNat).toList == [])
 ((0 : Int) ≤ 0 ∧ 0 < (↑(x.extract x_1.toNat x_2.toNat).size : Int)) ∧
 bsp (!(x.extract x_1.toNat x_2.toNat).toList == [] && blankB (at8 (x.extract x_1.toNat x_2.toNat) 0))
 (∃ (p : Option Addr),
 ∃ (n : Nat),
 ∃ (c : Nat),
 (∀ (W : World), Loc w.heap.size [] w W → W.cell? (Addr.mk b (o + 4) none) = some (Value.slice p n c)) ∧
 bsp ((↑n : Int) == 0)
 (∃ (x : Int),
 (∀ (W : World),
 Loc w.heap.size [] w W → W.cell? (Addr.mk b (o + 1) none) = some (Value.int IntKind.i64 x)) ∧
 ∀ (W : World),
 Loc w.heap.size [] w W →
 CallsS Tryz.prog 106
 #[Value.pointer (some (Addr.mk b o none)), Value.int IntKind.i64 x, Value.int IntKind.i64 3] W
 fun (e : Ending) (w' : World) =>
 e = Ending.returned (Value.tuple #[]) ∧ KeptL [] W w' ∧ R (Ending.returned (Value.tuple #[])) w')
 (∀ (W : World), Loc w.heap.size [] w W → R (Ending.returned (Value.tuple #[])) W))
 (∀ (W : World),
 Loc w.heap.size [] w W →
 CallsS Tryz.prog 105 #[Value.string (x.extract x_1.toNat x_2.toNat), Value.int IntKind.u8 58] W
 fun (e : Ending) (w' : World) =>
 ∃ (x_3 : Int),
 e = Ending.returned (Value.int IntKind.i64 x_3) ∧
 KeptL [] W w' ∧
 bsp (decide (x_3 < 0))
 (∃ (x : Int),
 w'.cell? (Addr.mk b (o + 1) none) = some (Value.int IntKind.i64 x) ∧
 CallsS Tryz.prog 106
 #[Value.pointer (some (Addr.mk b o none)), Value.int IntKind.i64 x, Value.int IntKind.i64 3] w'
 fun (e : Ending) (w'_1 : World) =>
 e = Ending.returned (Value.tuple #[]) ∧
 KeptL [] w' w'_1 ∧ R (Ending.returned (Value.tuple #[])) w'_1)
 ((0 ≤ x_3 ∧ x_3 ≤ (↑(x.extract x_1.toNat x_2.toNat).size : Int)) ∧
 CallsS Tryz.prog 110 #[Value.string ((x.extract x_1.toNat x_2.toNat).extract 0 x_3.toNat)] w'
 fun (e : Ending) (w'_1 : World) =>
 ∃ (x_4 : Bool),
 e = Ending.returned (Value.bool x_4) ∧
 KeptL [] w' w'_1 ∧
 bsp (!x_4)
 (∃ (x : Int),
 w'_1.cell? (Addr.mk b (o + 1) none) = some (Value.int IntKind.i64 x) ∧
 CallsS Tryz.prog 106
 #[Value.pointer (some (Addr.mk b o none)), Value.int IntKind.i64 x,
 Value.int IntKind.i64 12]
 w'_1 fun (e : Ending) (w' : World) =>
 e = Ending.returned (Value.tuple #[]) ∧
 KeptL [] w'_1 w' ∧ R (Ending.returned (Value.tuple #[])) w')
 (∃ (p : Option Addr),
 ∃ (n : Nat),
 ∃ (c : Nat),
 w'_1.cell? (Addr.mk b (o + 4) none) = some (Value.slice p n c) ∧
 bsp ((↑n : Int) == 64)
 (∃ (x : Int),
 w'_1.cell? (Addr.mk b (o + 1) none) = some (Value.int IntKind.i64 x) ∧
 CallsS Tryz.prog 106
 #[Value.pointer (some (Addr.mk b o none)), Value.int IntKind.i64 x,
 Value.int IntKind.i64 9]
 w'_1 fun (e : Ending) (w' : World) =>
 e = Ending.returned (Value.tuple #[]) ∧
 KeptL [] w'_1 w' ∧ R (Ending.returned (Value.tuple #[])) w')
 (∀ (W : World),
 Loc w.heap.size [] w'_1 W →
 ∃ (S : World → Prop),
 S W ∧
 ∃ (p : Option Addr),
 ∃ (n : Nat),
 ∃ (c : Nat),
 (∀ (w' : World),
 S w' → w'.cell? (Addr.mk b (o + 4) none) = some (Value.slice p n c)) ∧
 (0 ≤ x_3 ∧ x_3 ≤ (↑(x.extract x_1.toNat x_2.toNat).size : Int)) ∧
 ∀ (n_1 : Nat) (w1 : World),
 NewB W
 (Obj.cells
 #[Value.string ((x.extract x_1.toNat x_2.toNat).extract 0 x_3.toNat),
 Value.string (ByteArray.mk #[])]
 96)
 n_1 w1 →
 S w1 ∧
 ∃ (base : Nat),
 ∃ (xs : List Value),
 ∃ (news : List Value),
 w1.ownsRow base 96 2 (Value.slice p n c) n xs ∧
 news.length = 2 ∧
 SrcP w1 (some (Addr.mk n_1 0 none)) news ∧
 n + 1 ≤ 9223372036854775807 ∧
 (n + 1) * 32 ≤ 140737488355328 ∧
 base ≤ w1.heap.size ∧
 ∀ (p' : Option Addr) (c' : Nat) (w' : World),
 w'.ownsRow base 96 2 (Value.slice p' (n + 1) c') (n + 1)
 (xs ++ news) →
 w1.grownBy w' (Value.slice p n c).ownBlock →
 (n + 1 ≤ c → p' = p ∧ c' = c) →
 ((∃ (u : Value), w'.cell? (Addr.mk b (o + 4) none) = some u) ∧
 w'.frozen? (Addr.mk b (o + 4) none) = false) ∧
 ∀ (w1 : World),
 PutB w' b (o + 4) [Value.slice p' (n + 1) c'] w1 →
 KeptL [] W w1 ∧
 ∃ (x : Int),
 w1.cell? (Addr.mk b (o + 1) none) =
 some (Value.int IntKind.i64 x) ∧
 ((∃ (u : Value),
 w1.cell? (Addr.mk b (o + 3) none) = some u) ∧
 w1.frozen? (Addr.mk b (o + 3) none) = false) ∧
 ∀ (w1_1 : World),
 PutB w1 b (o + 3)
 [Value.int IntKind.i64
 (IntKind.i64.wrap (IntKind.i64.wrap (x + x_3) + 1))]
 w1_1 →
 KeptL [] w1 w1_1 ∧
 R (Ending.returned (Value.tuple #[])) w1_1)))))
theorem vc_pname (b : Nat) (o : Nat) (w : World) (R : Ending → World → Prop) (h : VC_pname b o w R) : Calls Tryz.prog 65 ([Value.pointer
    (some { block := b, off := o })] : List Value).toArray w R := by
  have e : execR2 { P := Tryz.prog, loops := [], pur := purM, tails := [(6, 9)], joins := [], boxes := [] } Tryz.f65.results.toList R (Tryz.f65.body.getD .skip) (initF [Value.pointer
    (some
      { block := b,
        off :=
          o })] (Tryz.f65.ntmps - ([Value.pointer
    (some { block := b, off := o })] : List Value).length)) w = VC_pname b o w R := by kernel_rfl
  have hb : Tryz.f65.body = some (Tryz.f65.body.getD .skip) := by kernel_rfl
  exact calls_of_exec2' (P := Tryz.prog) (fn := Tryz.f65) (c := Tryz.f65.body.getD .skip) (args := [Value.pointer
    (some { block := b, off := o })]) (w := w) (R := R) purM_ok Tryz.func65 hb e h

end Go.Proofs.YtmlmdljnfokebaaGreatDoor

/- The formulas of functions by the symbolic evaluator, and that each gives the call's contract. Written by a program (gen.py). No condition. -/
namespace Go.Proofs.YtmlmdljnfokebaaGreatDoor
set_option maxRecDepth 100000
set_option linter.unusedVariables false

def VC_pword (b : Nat) (o : Nat) (w : World) (R : Ending → World → Prop) : Prop :=
 ∃ (I : List Value → World → Prop),
 ∃ (m : List Value → World → Nat),
 I [] w ∧
 ∀ (w' : World),
 I [] w' →
 ∃ (x : Int),
 (∀ (W : World), Loc w.heap.size [] w' W → W.cell? (Addr.mk b (o + 5) none) = some (Value.int IntKind.i64 x)) ∧
 ∃ (x_1 : Int),
 gimp (x == 0)
 (∀ (W : World),
 Loc w.heap.size [] w' W → W.cell? (Addr.mk b (o + 3) none) = some (Value.int IntKind.i64 x_1)) ∧
 ∃ (x_2 : Int),
 gimp (x == 0)
 (∀ (W : World),
 Loc w.heap.size [] w' W → W.cell? (Addr.mk b (o + 2) none) = some (Value.int IntKind.i64 x_2)) ∧
 ∃ (x_3 : ByteArray),
 gimp (x == 0 && decide (x_1 < x_2))
 (∀ (W : World), Loc w.heap.size [] w' W → W.cell? (Addr.mk b o none) = some (Value.string x_3)) ∧
 ∃ (x_4 : Int),
 gimp (x == 0 && decide (x_1 < x_2))
 (∀ (W : World),
 Loc w.heap.size [] w' W → W.cell? (Addr.mk b (o + 3) none) = some (Value.int IntKind.i64 x_4)) ∧
 gimp (x == 0 && decide (x_1 < x_2)) (0 ≤ x_4 ∧ x_4 < (↑x_3.size : Int)) ∧
 bsp (x == 0 && decide (x_1 < x_2) && blankB (at8 x_3 x_4.toNat))
 (∃ (x : Int),
 (∀ (W : World),
 Loc w.heap.size [] w' W → W.cell? (Addr.mk b (o + 3) none) = some (Value.int IntKind.i64 x)) ∧
 ∀ (W : World),
 Loc w.heap.size [] w' W →
 ((∃ (u : Value), W.cell? (Addr.mk b (o + 3) none) = some u) ∧
 W.frozen? (Addr.mk b (o + 3) none) = false) ∧
 ∀ (w1 : World),
 PutB W b (o + 3) [Value.int IntKind.i64 (IntKind.i64.wrap (x + 1))] w1 →
 KeptL [] W w1 ∧ I [] w1 ∧ m [] w1 < m [] w')
 (∃ (x : Int),
 (∀ (W : World),
 Loc w.heap.size [] w' W → W.cell? (Addr.mk b (o + 5) none) = some (Value.int IntKind.i64 x)) ∧
 ∃ (x_5 : Int),
 gimp (!x != 0)
 (∀ (W : World),
 Loc w.heap.size [] w' W → W.cell? (Addr.mk b (o + 3) none) = some (Value.int IntKind.i64 x_5)) ∧
 ∃ (x_6 : Int),
 gimp (!x != 0)
 (∀ (W : World),
 Loc w.heap.size [] w' W →
 W.cell? (Addr.mk b (o + 2) none) = some (Value.int IntKind.i64 x_6)) ∧
 bsp (x != 0 || x_5 == x_6)
 (∀ (W : World), Loc w.heap.size [] w' W → R (Ending.returned (Value.bool false)) W)
 (∃ (x : Int),
 (∀ (W : World),
 Loc w.heap.size [] w' W →
 W.cell? (Addr.mk b (o + 3) none) = some (Value.int IntKind.i64 x)) ∧
 ∀ (W : World),
 Loc w.heap.size [] w' W →
 ∃ (I : List Value → World → Prop),
 ∃ (m : List Value → World → Nat),
 I [Value.int IntKind.i64 x] W ∧
 ∀ (x : Int) (w' : World),
 I [Value.int IntKind.i64 x] w' →
 ∃ (x_7 : Int),
 w'.cell? (Addr.mk b (o + 2) none) = some (Value.int IntKind.i64 x_7) ∧
 ∃ (x_8 : ByteArray),
 gimp (decide (x < x_7)) (w'.cell? (Addr.mk b o none) = some (Value.string x_8)) ∧
 gimp (decide (x < x_7)) (0 ≤ x ∧ x < (↑x_8.size : Int)) ∧
 bsp (decide (x < x_7) && !blankB (at8 x_8 x.toNat))
 (I [Value.int IntKind.i64 (IntKind.i64.wrap (x + 1))] w' ∧
 m [Value.int IntKind.i64 (IntKind.i64.wrap (x + 1))] w' <
 m [Value.int IntKind.i64 x] w')
 (∃ (x_9 : Int),
 w'.cell? (Addr.mk b (o + 3) none) = some (Value.int IntKind.i64 x_9) ∧
 bsp (decide (IntKind.i64.wrap (x - x_9) > 900))
 (∃ (x : Int),
 w'.cell? (Addr.mk b (o + 3) none) = some (Value.int IntKind.i64 x) ∧
 CallsS Tryz.prog 106
 #[Value.pointer (some (Addr.mk b o none)), Value.int IntKind.i64 x,
 Value.int IntKind.i64 5]
 w' fun (e : Ending) (w'_1 : World) =>
 e = Ending.returned (Value.tuple #[]) ∧
 KeptL [] w' w'_1 ∧ R (Ending.returned (Value.bool false)) w'_1)
 (∃ (p : Option Addr),
 ∃ (n : Nat),
 ∃ (c : Nat),
 (∀ (W : World),
 Loc w.heap.size [] w' W →
 W.cell? (Addr.mk b (o + 4) none) = some (Value.slice p n c)) ∧
 ∃ (p_1 : Option Addr),
 ∃ (n_1 : Nat),
 ∃ (c : Nat),
 (∀ (W : World),
 Loc w.heap.size [] w' W →
 W.cell? (Addr.mk b (o + 4) none) = some (Value.slice p_1 n_1 c)) ∧
 nn true p fun (b_1 o_1 : Nat) =>
 (0 ≤ IntKind.i64.wrap ((↑n_1 : Int) - 1) ∧
 IntKind.i64.wrap ((↑n_1 : Int) - 1) < (↑n : Int)) ∧
 ∃ (x_10 : ByteArray),
 (∀ (W : World),
 Loc w.heap.size [] w' W →
 W.cell?
 (Addr.mk b_1
 (o_1 + (IntKind.i64.wrap ((↑n_1 : Int) - 1)).toNat * 2 + 1)
 none) =
 some (Value.string x_10)) ∧
 bsp (!x_10.toList == [])
 (∃ (x_11 : ByteArray),
 (∀ (W : World),
 Loc w.heap.size [] w' W →
 W.cell?
 (Addr.mk b_1
 (o_1 + (IntKind.i64.wrap ((↑n_1 : Int) - 1)).toNat * 2 +
 1)
 none) =
 some (Value.string x_11)) ∧
 (9223372036854775807 -
 (↑(x_11.size + (ByteArray.mk #[32]).size) : Int)).NonNeg ∧
 ∀ (W : World),
 Loc w.heap.size [] w' W →
 ((∃ (u : Value),
 W.cell?
 (Addr.mk b_1
 (o_1 +
 (IntKind.i64.wrap ((↑n_1 : Int) - 1)).toNat * 2 +
 1)
 none) =
 some u) ∧
 W.frozen?
 (Addr.mk b_1
 (o_1 +
 (IntKind.i64.wrap ((↑n_1 : Int) - 1)).toNat * 2 +
 1)
 none) =
 false) ∧
 ∀ (w1 : World),
 PutB W b_1
 (o_1 + (IntKind.i64.wrap ((↑n_1 : Int) - 1)).toNat * 2 +
 1)
 [Value.string (x_11 ++ ByteArray.mk #[32])] w1 →
 KeptL [] W w1 ∧
 ∃ (x_12 : ByteArray),
 (∀ (W : World),
 Loc w.heap.size [] w1 W →
 W.cell?
 (Addr.mk b_1
 (o_1 +
 (IntKind.i64.wrap ((↑n_1 : Int) - 1)).toNat *
 2 +
 1)
 none) =
 some (Value.string x_12)) ∧
 ∃ (x_13 : ByteArray),
 (∀ (W : World),
 Loc w.heap.size [] w1 W →
 W.cell? (Addr.mk b o none) =
 some (Value.string x_13)) ∧
 ∃ (x_14 : Int),
 (∀ (W : World),
 Loc w.heap.size [] w1 W →
 W.cell? (Addr.mk b (o + 3) none) =
 some (Value.int IntKind.i64 x_14)) ∧
 (0 ≤ x_14 ∧ x_14 ≤ x ∧ x ≤ (↑x_13.size : Int)) ∧
 (9223372036854775807 -
 (↑(x_12.size +
 (x_13.extract x_14.toNat x.toNat).size) :
 Int)).NonNeg ∧
 ∀ (W : World),
 Loc w.heap.size [] w1 W →
 ((∃ (u : Value),
 W.cell?
 (Addr.mk b_1
 (o_1 +
 (IntKind.i64.wrap
 ((↑n_1 : Int) - 1)).toNat *
 2 +
 1)
 none) =
 some u) ∧
 W.frozen?
 (Addr.mk b_1
 (o_1 +
 (IntKind.i64.wrap
 ((↑n_1 : Int) - 1)).toNat *
 2 +
 1)
 none) =
 false) ∧
 ∀ (w1 : World),
 PutB W b_1
 (o_1 +
 (IntKind.i64.wrap
 ((↑n_1 : Int) - 1)).toNat *
 2 +
 1)
 [Value.string
 (x_12 ++
 x_13.extract x_14.toNat x.toNat)]
 w1 →
 KeptL [] W w1 ∧
 ((∃ (u : Value),
 w1.cell? (Addr.mk b (o + 3) none) =
 some u) ∧
 w1.frozen? (Addr.mk b (o + 3) none) =
 false) ∧
 ∀ (w1_1 : World),
 PutB w1 b (o + 3)
 [Value.int IntKind.i64 x] w1_1 →
 KeptL [] w1 w1_1 ∧
 R (Ending.returned (Value.bool true))
 w1_1)
 (∃ (x_11 : ByteArray),
 (∀ (W : World),
 Loc w.heap.size [] w' W →
 W.cell?
 (Addr.mk b_1
 (o_1 + (IntKind.i64.wrap ((↑n_1 : Int) - 1)).toNat * 2 +
 1)
 none) =
 some (Value.string x_11)) ∧
 ∃ (x_12 : ByteArray),
 (∀ (W : World),
 Loc w.heap.size [] w' W →
 W.cell? (Addr.mk b o none) = some (Value.string x_12)) ∧
 ∃ (x_13 : Int),
 (∀ (W : World),
 Loc w.heap.size [] w' W →
 W.cell? (Addr.mk b (o + 3) none) =
 some (Value.int IntKind.i64 x_13)) ∧
 (0 ≤ x_13 ∧ x_13 ≤ x ∧ x ≤ (↑x_12.size : Int)) ∧
 (9223372036854775807 -
 (↑(x_11.size +
 (x_12.extract x_13.toNat x.toNat).size) :
 Int)).NonNeg ∧
 ∀ (W : World),
 Loc w.heap.size [] w' W →
 ((∃ (u : Value),
 W.cell?
 (Addr.mk b_1
 (o_1 +
 (IntKind.i64.wrap ((↑n_1 : Int) - 1)).toNat *
 2 +
 1)
 none) =
 some u) ∧
 W.frozen?
 (Addr.mk b_1
 (o_1 +
 (IntKind.i64.wrap ((↑n_1 : Int) - 1)).toNat *
 2 +
 1)
 none) =
 false) ∧
 ∀ (w1 : World),
 PutB W b_1
 (o_1 +
 (IntKind.i64.wrap ((↑n_1 : Int) - 1)).toNat * 2 +
 1)
 [Value.string
 (x_11 ++ x_12.extract x_13.toNat x.toNat)]
 w1 →
 KeptL [] W w1 ∧
 ((∃ (u : Value),
 w1.cell? (Addr.mk b (o + 3) none) = some u) ∧
 w1.frozen? (Addr.mk b (o + 3) none) = false) ∧
 ∀ (w1_1 : World),
 PutB w1 b (o + 3) [Value.int IntKind.i64 x]
 w1_1 →
 KeptL [] w1 w1_1 ∧
 R (Ending.returned (Value.bool true)) w1_1)))))
theorem vc_pword (b : Nat) (o : Nat) (w : World) (R : Ending → World → Prop) (h : VC_pword b o w R) : Calls Tryz.prog 111 ([Value.pointer
    (some { block := b, off := o })] : List Value).toArray w R := by
  have e : execR2 { P := Tryz.prog, loops := [(1, []), (6, [(3, Ck.int IntKind.i64)])], pur := purM, tails := [(14, 17)], joins := [], boxes := [] } Tryz.f111.results.toList R (Tryz.f111.body.getD .skip) (initF [Value.pointer
    (some
      { block := b,
        off :=
          o })] (Tryz.f111.ntmps - ([Value.pointer
    (some { block := b, off := o })] : List Value).length)) w = VC_pword b o w R := by kernel_rfl
  have hb : Tryz.f111.body = some (Tryz.f111.body.getD .skip) := by kernel_rfl
  exact calls_of_exec2' (P := Tryz.prog) (fn := Tryz.f111) (c := Tryz.f111.body.getD .skip) (args := [Value.pointer
    (some { block := b, off := o })]) (w := w) (R := R) purM_ok Tryz.func111 hb e h

def VC_pbody (b : Nat) (o : Nat) (w : World) (R : Ending → World → Prop) : Prop :=
 ∃ (I : List Value → World → Prop),
 ∃ (m : List Value → World → Nat),
 I [] w ∧
 ∀ (w' : World),
 I [] w' →
 CallsS Tryz.prog 111 #[Value.pointer (some (Addr.mk b o none))] w' fun (e : Ending) (w'_1 : World) =>
 ∃ (x : Bool),
 e = Ending.returned (Value.bool x) ∧
 KeptL [] w' w'_1 ∧
 bsp x (I [] w'_1 ∧ m [] w'_1 < m [] w')
 (∃ (x : Int),
 (∀ (W : World),
 Loc w.heap.size [] w'_1 W → W.cell? (Addr.mk b (o + 5) none) = some (Value.int IntKind.i64 x)) ∧
 ∃ (p : Option Addr),
 ∃ (n : Nat),
 ∃ (c : Nat),
 gimp (x == 0)
 (∀ (W : World),
 Loc w.heap.size [] w'_1 W → W.cell? (Addr.mk b (o + 4) none) = some (Value.slice p n c)) ∧
 ∃ (p_1 : Option Addr),
 ∃ (n_1 : Nat),
 ∃ (c : Nat),
 gimp (x == 0)
 (∀ (W : World),
 Loc w.heap.size [] w'_1 W → W.cell? (Addr.mk b (o + 4) none) = some (Value.slice p_1 n_1 c)) ∧
 nn (x == 0) p fun (b_1 o_1 : Nat) =>
 gimp (x == 0)
 (0 ≤ IntKind.i64.wrap ((↑n_1 : Int) - 1) ∧ IntKind.i64.wrap ((↑n_1 : Int) - 1) < (↑n : Int)) ∧
 ∃ (x_1 : ByteArray),
 gimp (x == 0)
 (∀ (W : World),
 Loc w.heap.size [] w'_1 W →
 W.cell? (Addr.mk b_1 (o_1 + (IntKind.i64.wrap ((↑n_1 : Int) - 1)).toNat * 2 + 1) none) =
 some (Value.string x_1)) ∧
 bsp (x == 0 && decide ((↑x_1.size : Int) > 8192))
 (∃ (x : Int),
 (∀ (W : World),
 Loc w.heap.size [] w'_1 W →
 W.cell? (Addr.mk b (o + 1) none) = some (Value.int IntKind.i64 x)) ∧
 ∀ (W : World),
 Loc w.heap.size [] w'_1 W →
 CallsS Tryz.prog 106
 #[Value.pointer (some (Addr.mk b o none)), Value.int IntKind.i64 x,
 Value.int IntKind.i64 5]
 W fun (e : Ending) (w' : World) =>
 e = Ending.returned (Value.tuple #[]) ∧
 KeptL [] W w' ∧ R (Ending.returned (Value.tuple #[])) w')
 (∀ (W : World), Loc w.heap.size [] w'_1 W → R (Ending.returned (Value.tuple #[])) W))
theorem vc_pbody (b : Nat) (o : Nat) (w : World) (R : Ending → World → Prop) (h : VC_pbody b o w R) : Calls Tryz.prog 66 ([Value.pointer
    (some { block := b, off := o })] : List Value).toArray w R := by
  have e : execR2 { P := Tryz.prog, loops := [(0, [])], pur := purM, tails := [], joins := [], boxes := [] } Tryz.f66.results.toList R (Tryz.f66.body.getD .skip) (initF [Value.pointer
    (some
      { block := b,
        off :=
          o })] (Tryz.f66.ntmps - ([Value.pointer
    (some { block := b, off := o })] : List Value).length)) w = VC_pbody b o w R := by kernel_rfl
  have hb : Tryz.f66.body = some (Tryz.f66.body.getD .skip) := by kernel_rfl
  exact calls_of_exec2' (P := Tryz.prog) (fn := Tryz.f66) (c := Tryz.f66.body.getD .skip) (args := [Value.pointer
    (some { block := b, off := o })]) (w := w) (R := R) purM_ok Tryz.func66 hb e h

def VC_fparse (s : ByteArray) (w : World) (R : Ending → World → Prop) : Prop :=
 bsp (decide ((↑s.size : Int) > 65536))
 (R (Ending.returned (Value.tuple #[Value.slice none 0 0, Value.int IntKind.i64 65536, Value.int IntKind.i64 5])) w)
 (∀ (n : Nat) (W : World),
 Loc w.heap.size
 [Blk.mk n 127
 [Value.string s, Value.int IntKind.i64 0, Value.int IntKind.i64 0, Value.int IntKind.i64 0, Value.slice none 0 0,
 Value.int IntKind.i64 0]
 2]
 w W →
 ∃ (I : List Value → World → Prop),
 ∃ (m : List Value → World → Nat),
 I [Value.int IntKind.i64 0] W ∧
 ∀ (x : Int) (w' : World),
 I [Value.int IntKind.i64 x] w' →
 ∃ (x_1 : Int),
 gimp (decide (x < (↑s.size : Int))) (w'.cell? (Addr.mk n (0 + 5) none) = some (Value.int IntKind.i64 x_1)) ∧
 bsp (decide (x < (↑s.size : Int)) && x_1 == 0)
 (CallsS Tryz.prog 64 #[Value.pointer (some (Addr.mk n 0 none)), Value.int IntKind.i64 x] w'
 fun (e : Ending) (w'_1 : World) =>
 e = Ending.returned (Value.tuple #[]) ∧
 KeptL [] w' w'_1 ∧
 CallsS Tryz.prog 65 #[Value.pointer (some (Addr.mk n 0 none))] w'_1 fun (e : Ending) (w'_2 : World) =>
 e = Ending.returned (Value.tuple #[]) ∧
 KeptL [] w'_1 w'_2 ∧
 CallsS Tryz.prog 66 #[Value.pointer (some (Addr.mk n 0 none))] w'_2 fun (e : Ending) (w'_3 : World) =>
 e = Ending.returned (Value.tuple #[]) ∧
 KeptL [] w'_2 w'_3 ∧
 ∃ (x_2 : Int),
 w'_3.cell? (Addr.mk n (0 + 2) none) = some (Value.int IntKind.i64 x_2) ∧
 I [Value.int IntKind.i64 (IntKind.i64.wrap (x_2 + 1))] w'_3 ∧
 m [Value.int IntKind.i64 (IntKind.i64.wrap (x_2 + 1))] w'_3 < m [Value.int IntKind.i64 x] w')
 (∃ (x : Int),
 w'.cell? (Addr.mk n (0 + 5) none) = some (Value.int IntKind.i64 x) ∧
 bsp (x != 0)
 (∃ (x : Int),
 (∀ (W : World),
 Loc w.heap.size [] w' W → W.cell? (Addr.mk n (0 + 3) none) = some (Value.int IntKind.i64 x)) ∧
 ∃ (x_2 : Int),
 (∀ (W : World),
 Loc w.heap.size [] w' W → W.cell? (Addr.mk n (0 + 5) none) = some (Value.int IntKind.i64 x_2)) ∧
 ∀ (W : World),
 Loc w.heap.size [] w' W →
 R
 (Ending.returned
 (Value.tuple #[Value.slice none 0 0, Value.int IntKind.i64 x, Value.int IntKind.i64 x_2]))
 W)
 (∃ (p : Option Addr),
 ∃ (n_1 : Nat),
 ∃ (c : Nat),
 w'.cell? (Addr.mk n (0 + 4) none) = some (Value.slice p n_1 c) ∧
 R
 (Ending.returned
 (Value.tuple #[Value.slice p n_1 c, Value.int IntKind.i64 0, Value.int IntKind.i64 0]))
 w')))
theorem vc_fparse (s : ByteArray) (w : World) (R : Ending → World → Prop) (h : VC_fparse s w R) : Calls Tryz.prog 32 ([Value.string
    s] : List Value).toArray w R := by
  have e : execR2 { P := Tryz.prog, loops := [(5, [(6, Ck.int IntKind.i64)])], pur := purM, tails := [], joins := [], boxes := [] } Tryz.f32.results.toList R (Tryz.f32.body.getD .skip) (initF [Value.string
    s] (Tryz.f32.ntmps - ([Value.string s] : List Value).length)) w = VC_fparse s w R := by kernel_rfl
  have hb : Tryz.f32.body = some (Tryz.f32.body.getD .skip) := by kernel_rfl
  exact calls_of_exec2' (P := Tryz.prog) (fn := Tryz.f32) (c := Tryz.f32.body.getD .skip) (args := [Value.string
    s]) (w := w) (R := R) purM_ok Tryz.func32 hb e h

def VC_anum (s : ByteArray) (m : Int) (w : World) (R : Ending → World → Prop) : Prop :=
 bsp (!s.toList == [])
 (CallsS Tryz.prog 115 #[Value.string s, Value.int IntKind.i64 0, Value.func (Fn.func 116) #[] #[]] w
 fun (e : Ending) (w' : World) =>
 ∃ (x : Int),
 e = Ending.returned (Value.int IntKind.i64 x) ∧
 KeptL [] w w' ∧
 gimp (!(false || decide (x < (↑s.size : Int))) && decide ((↑s.size : Int) > 1)) ((0 : Int) ≤ 0 ∧ 0 < (↑s.size : Int)) ∧
 bsp (false || decide (x < (↑s.size : Int)) || decide ((↑s.size : Int) > 1) && at8 s 0 == 48)
 (R (Ending.returned (Value.tuple #[Value.int IntKind.i64 0, Value.int IntKind.i64 3])) w')
 (bsp (decide (m < 0)) (R (Ending.returned (Value.tuple #[Value.int IntKind.i64 0, Value.int IntKind.i64 2])) w')
 (∃ (I : List Value → World → Prop),
 ∃ (m_1 : List Value → World → Nat),
 I [Value.int IntKind.i64 0, Value.int IntKind.i64 0] w' ∧
 ∀ (x x_1 : Int) (w' : World),
 I [Value.int IntKind.i64 x, Value.int IntKind.i64 x_1] w' →
 bsp (decide (x < (↑s.size : Int)))
 ((0 ≤ x ∧ x < (↑s.size : Int)) ∧
 bsp
 (decide (x_1 > IntKind.i64.wrap (m.tdiv 10)) ||
 x_1 == IntKind.i64.wrap (m.tdiv 10) &&
 decide (IntKind.i64.wrap (IntKind.u8.wrap (at8 s x.toNat - 48)) > m.tmod 10))
 (R (Ending.returned (Value.tuple #[Value.int IntKind.i64 0, Value.int IntKind.i64 2])) w')
 (I
 [Value.int IntKind.i64 (IntKind.i64.wrap (x + 1)),
 Value.int IntKind.i64
 (IntKind.i64.wrap
 (IntKind.i64.wrap (10 * x_1) + IntKind.i64.wrap (IntKind.u8.wrap (at8 s x.toNat - 48))))]
 w' ∧
 m_1
 [Value.int IntKind.i64 (IntKind.i64.wrap (x + 1)),
 Value.int IntKind.i64
 (IntKind.i64.wrap
 (IntKind.i64.wrap (10 * x_1) + IntKind.i64.wrap (IntKind.u8.wrap (at8 s x.toNat - 48))))]
 w' <
 m_1 [Value.int IntKind.i64 x, Value.int IntKind.i64 x_1] w'))
 (R (Ending.returned (Value.tuple #[Value.int IntKind.i64 x_1, Value.int IntKind.i64 0])) w'))))
 (KeptL [] w w ∧ True ∧ R (Ending.returned (Value.tuple #[Value.int IntKind.i64 0, Value.int IntKind.i64 3])) w)
theorem vc_anum (s : ByteArray) (m : Int) (w : World) (R : Ending → World → Prop) (h : VC_anum s m w R) : Calls Tryz.prog 68 ([Value.string
    s,
  Value.int IntKind.i64 m] : List Value).toArray w R := by
  have e : execR2 { P := Tryz.prog, loops := [(7, [(32, Ck.int IntKind.i64), (6, Ck.int IntKind.i64)])], pur := purM, tails := [], joins := [], boxes := [] } Tryz.f68.results.toList R (Tryz.f68.body.getD .skip) (initF [Value.string
    s,
  Value.int IntKind.i64
    m] (Tryz.f68.ntmps - ([Value.string s,
  Value.int IntKind.i64 m] : List Value).length)) w = VC_anum s m w R := by kernel_rfl
  have hb : Tryz.f68.body = some (Tryz.f68.body.getD .skip) := by kernel_rfl
  exact calls_of_exec2' (P := Tryz.prog) (fn := Tryz.f68) (c := Tryz.f68.body.getD .skip) (args := [Value.string s,
  Value.int IntKind.i64 m]) (w := w) (R := R) purM_ok Tryz.func68 hb e h

def VC_mread (p : Option Addr) (n : Nat) (c : Nat) (w : World) (R : Ending → World → Prop) : Prop :=
 ∀ (n_1 : Nat),
 bsp ((↑n : Int) != 6)
 (∀ (W : World),
 Loc w.heap.size
 [Blk.mk n_1 26
 [Value.string (ByteArray.mk #[]), Value.string (ByteArray.mk #[]), Value.string (ByteArray.mk #[]),
 Value.string (ByteArray.mk #[]), Value.int IntKind.i64 0, Value.int IntKind.i64 0,
 Value.string (ByteArray.mk #[]), Value.slice none 0 0, Value.string (ByteArray.mk #[])]
 (wrM 2)]
 w W →
 R
 (Ending.returned
 (Value.tuple
 #[Value.agg
 #[Value.string (ByteArray.mk #[]), Value.string (ByteArray.mk #[]), Value.string (ByteArray.mk #[]),
 Value.string (ByteArray.mk #[]), Value.int IntKind.i64 0, Value.int IntKind.i64 0,
 Value.string (ByteArray.mk #[]), Value.slice none 0 0, Value.string (ByteArray.mk #[])],
 Value.bool false]))
 W)
 (nn true p fun (b o : Nat) =>
 ((0 : Int) ≤ 0 ∧ 0 < (↑n : Int)) ∧
 ∃ (x : ByteArray),
 (∀ (W : World),
 Loc w.heap.size
 [Blk.mk n_1 26
 [Value.string (ByteArray.mk #[]), Value.string (ByteArray.mk #[]), Value.string (ByteArray.mk #[]),
 Value.string (ByteArray.mk #[]), Value.int IntKind.i64 0, Value.int IntKind.i64 0,
 Value.string (ByteArray.mk #[]), Value.slice none 0 0, Value.string (ByteArray.mk #[])]
 2]
 w W →
 W.cell? (Addr.mk b (o + 1) none) = some (Value.string x)) ∧
 ∀ (W : World),
 Loc w.heap.size
 [Blk.mk n_1 26
 [Value.string (ByteArray.mk #[]), Value.string (ByteArray.mk #[]), Value.string (ByteArray.mk #[]),
 Value.string (ByteArray.mk #[]), Value.int IntKind.i64 0, Value.int IntKind.i64 0,
 Value.string (ByteArray.mk #[]), Value.slice none 0 0, Value.string (ByteArray.mk #[])]
 2]
 w W →
 CallsS Tryz.prog 67 #[Value.string x] W fun (e : Ending) (w' : World) =>
 ∃ (x : ByteArray),
 ∃ (x_1 : ByteArray),
 ∃ (x_2 : Int),
 e =
 Ending.returned
 (Value.tuple #[Value.agg #[Value.string x, Value.string x_1], Value.int IntKind.i64 x_2]) ∧
 KeptL [n_1] W w' ∧
 ∀ (n_2 : Nat),
 nn true p fun (b o : Nat) =>
 ((0 : Int) ≤ 1 ∧ 1 < (↑n : Int)) ∧
 ∃ (x_3 : ByteArray),
 (∀ (W : World),
 Loc w.heap.size
 [Blk.mk n_2 23 [Value.string x, Value.string x_1] (wrM 2),
 Blk.mk n_1 26
 [Value.string (ByteArray.mk #[]), Value.string (ByteArray.mk #[]),
 Value.string (ByteArray.mk #[]), Value.string (ByteArray.mk #[]), Value.int IntKind.i64 0,
 Value.int IntKind.i64 0, Value.string (ByteArray.mk #[]), Value.slice none 0 0,
 Value.string (ByteArray.mk #[])]
 0]
 w' W →
 W.cell? (Addr.mk b (o + 3) none) = some (Value.string x_3)) ∧
 ∀ (W : World),
 Loc w.heap.size
 [Blk.mk n_2 23 [Value.string x, Value.string x_1] (wrM 2),
 Blk.mk n_1 26
 [Value.string (ByteArray.mk #[]), Value.string (ByteArray.mk #[]),
 Value.string (ByteArray.mk #[]), Value.string (ByteArray.mk #[]), Value.int IntKind.i64 0,
 Value.int IntKind.i64 0, Value.string (ByteArray.mk #[]), Value.slice none 0 0,
 Value.string (ByteArray.mk #[])]
 0]
 w' W →
 CallsS Tryz.prog 67 #[Value.string x_3] W fun (e : Ending) (w' : World) =>
 ∃ (x_4 : ByteArray),
 ∃ (x_5 : ByteArray),
 ∃ (x_6 : Int),
 e =
 Ending.returned
 (Value.tuple
 #[Value.agg #[Value.string x_4, Value.string x_5], Value.int IntKind.i64 x_6]) ∧
 KeptL [n_2, n_1] W w' ∧
 ∀ (n_3 : Nat),
 nn true p fun (b o : Nat) =>
 ((0 : Int) ≤ 2 ∧ 2 < (↑n : Int)) ∧
 ∃ (x_7 : ByteArray),
 (∀ (W : World),
 Loc w.heap.size
 [Blk.mk n_3 23 [Value.string x_4, Value.string x_5] (wrM 2),
 Blk.mk n_2 23 [Value.string x, Value.string x_1] 0,
 Blk.mk n_1 26
 [Value.string (ByteArray.mk #[]), Value.string (ByteArray.mk #[]),
 Value.string (ByteArray.mk #[]), Value.string (ByteArray.mk #[]),
 Value.int IntKind.i64 0, Value.int IntKind.i64 0, Value.string (ByteArray.mk #[]),
 Value.slice none 0 0, Value.string (ByteArray.mk #[])]
 0]
 w' W →
 W.cell? (Addr.mk b (o + 5) none) = some (Value.string x_7)) ∧
 ∀ (W : World),
 Loc w.heap.size
 [Blk.mk n_3 23 [Value.string x_4, Value.string x_5] (wrM 2),
 Blk.mk n_2 23 [Value.string x, Value.string x_1] 0,
 Blk.mk n_1 26
 [Value.string (ByteArray.mk #[]), Value.string (ByteArray.mk #[]),
 Value.string (ByteArray.mk #[]), Value.string (ByteArray.mk #[]),
 Value.int IntKind.i64 0, Value.int IntKind.i64 0, Value.string (ByteArray.mk #[]),
 Value.slice none 0 0, Value.string (ByteArray.mk #[])]
 0]
 w' W →
 CallsS Tryz.prog 68 #[Value.string x_7, Value.int IntKind.i64 2147483647] W
 fun (e : Ending) (w' : World) =>
 ∃ (x_8 : Int),
 ∃ (x_9 : Int),
 e =
 Ending.returned
 (Value.tuple #[Value.int IntKind.i64 x_8, Value.int IntKind.i64 x_9]) ∧
 KeptL [n_3, n_2, n_1] W w' ∧
 nn true p fun (b o : Nat) =>
 ((0 : Int) ≤ 3 ∧ 3 < (↑n : Int)) ∧
 ∃ (x_10 : ByteArray),
 w'.cell? (Addr.mk b (o + 7) none) = some (Value.string x_10) ∧
 CallsS Tryz.prog 68 #[Value.string x_10, Value.int IntKind.i64 105190559] w'
 fun (e : Ending) (w'_1 : World) =>
 ∃ (x_11 : Int),
 ∃ (x_12 : Int),
 e =
 Ending.returned
 (Value.tuple
 #[Value.int IntKind.i64 x_11, Value.int IntKind.i64 x_12]) ∧
 KeptL [n_3, n_2, n_1] w' w'_1 ∧
 bsp (x_2 != 0 || x_6 != 0 || x_9 != 0 || x_12 != 0)
 (∀ (W : World),
 Loc w.heap.size
 [Blk.mk n_3 23 [Value.string x_4, Value.string x_5] 0,
 Blk.mk n_2 23 [Value.string x, Value.string x_1] 0,
 Blk.mk n_1 26
 [Value.string (ByteArray.mk #[]), Value.string (ByteArray.mk #[]),
 Value.string (ByteArray.mk #[]), Value.string (ByteArray.mk #[]),
 Value.int IntKind.i64 0, Value.int IntKind.i64 0,
 Value.string (ByteArray.mk #[]), Value.slice none 0 0,
 Value.string (ByteArray.mk #[])]
 (wrM 0)]
 w'_1 W →
 R
 (Ending.returned
 (Value.tuple
 #[Value.agg
 #[Value.string (ByteArray.mk #[]),
 Value.string (ByteArray.mk #[]),
 Value.string (ByteArray.mk #[]),
 Value.string (ByteArray.mk #[]), Value.int IntKind.i64 0,
 Value.int IntKind.i64 0, Value.string (ByteArray.mk #[]),
 Value.slice none 0 0, Value.string (ByteArray.mk #[])],
 Value.bool false]))
 W)
 (∀ (W : World),
 Loc w.heap.size
 [Blk.mk n_3 23 [Value.string x_4, Value.string x_5] 0,
 Blk.mk n_2 23 [Value.string x, Value.string x_1] 0,
 Blk.mk n_1 26
 [Value.string (ByteArray.mk #[]), Value.string (ByteArray.mk #[]),
 Value.string (ByteArray.mk #[]), Value.string (ByteArray.mk #[]),
 Value.int IntKind.i64 0, Value.int IntKind.i64 0,
 Value.string (ByteArray.mk #[]), Value.slice none 0 0,
 Value.string (ByteArray.mk #[])]
 0]
 w'_1 W →
 ∃ (S : World → Prop),
 S W ∧
 ∃ (x : ByteArray),
 ∃ (x_13 : ByteArray),
 (∀ (w' : World),
 S w' → AtL w' n_2 0 [Value.string x, Value.string x_13]) ∧
 ∃ (x_14 : ByteArray),
 ∃ (x_15 : ByteArray),
 (∀ (w' : World),
 S w' →
 AtL w' n_3 0 [Value.string x_14, Value.string x_15]) ∧
 nn true p fun (b o : Nat) =>
 ((0 : Int) ≤ 4 ∧ 4 < (↑n : Int)) ∧
 ∃ (x_16 : ByteArray),
 (∀ (w' : World),
 S w' →
 w'.cell? (Addr.mk b (o + 9) none) =
 some (Value.string x_16)) ∧
 nn true p fun (b o : Nat) =>
 ((0 : Int) ≤ 5 ∧ 5 < (↑n : Int)) ∧
 ∃ (x_17 : ByteArray),
 (∀ (w' : World),
 S w' →
 w'.cell? (Addr.mk b (o + 11) none) =
 some (Value.string x_17)) ∧
 CallsS Tryz.prog 69 #[Value.string x_16] W
 fun (e : Ending) (w' : World) =>
 ∃ (p : Option Addr),
 ∃ (n : Nat),
 ∃ (c : Nat),
 e = Ending.returned (Value.slice p n c) ∧
 S w' ∧
 WrL w' n_1 0 9 ∧
 ∀ (w1 : World),
 PutB w' n_1 0
 [Value.string x, Value.string x_13,
 Value.string x_14, Value.string x_15,
 Value.int IntKind.i64 x_8,
 Value.int IntKind.i64 x_11,
 Value.string x_17, Value.slice p n c,
 Value.string (ByteArray.mk #[])]
 w1 →
 KeptL [n_3, n_2] W w1 ∧
 ∃ (x : ByteArray),
 ∃ (x_18 : ByteArray),
 ∃ (x_19 : ByteArray),
 ∃ (x_20 : ByteArray),
 ∃ (x_21 : Int),
 ∃ (x_22 : Int),
 ∃ (x_23 : ByteArray),
 ∃ (p : Option Addr),
 ∃ (n : Nat),
 ∃ (c : Nat),
 ∃ (x_24 : ByteArray),
 AtL w1 n_1 0
 [Value.string x,
 Value.string x_18,
 Value.string x_19,
 Value.string x_20,
 Value.int IntKind.i64 x_21,
 Value.int IntKind.i64 x_22,
 Value.string x_23,
 Value.slice p n c,
 Value.string x_24] ∧
 R
 (Ending.returned
 (Value.tuple
 #[Value.agg
 #[Value.string x,
 Value.string x_18,
 Value.string x_19,
 Value.string x_20,
 Value.int IntKind.i64
 x_21,
 Value.int IntKind.i64
 x_22,
 Value.string x_23,
 Value.slice p n c,
 Value.string x_24],
 Value.bool true]))
 w1))
theorem vc_mread (p : Option Addr) (n : Nat) (c : Nat) (w : World) (R : Ending → World → Prop) (h : VC_mread p n c w R) : Calls Tryz.prog 33 ([Value.slice
    p n c] : List Value).toArray w R := by
  have e : execR2 { P := Tryz.prog, loops := [], pur := purM, tails := [(9, 8)], joins := [], boxes := [] } Tryz.f33.results.toList R (Tryz.f33.body.getD .skip) (initF [Value.slice
    p n c] (Tryz.f33.ntmps - ([Value.slice p n c] : List Value).length)) w = VC_mread p n c w R := by kernel_rfl
  have hb : Tryz.f33.body = some (Tryz.f33.body.getD .skip) := by kernel_rfl
  exact calls_of_exec2' (P := Tryz.prog) (fn := Tryz.f33) (c := Tryz.f33.body.getD .skip) (args := [Value.slice p n
    c]) (w := w) (R := R) purM_ok Tryz.func33 hb e h

def VC_mpar (s : ByteArray) (w : World) (R : Ending → World → Prop) : Prop :=
 ∀ (n : Nat) (W : World),
 Loc w.heap.size
 [Blk.mk n 26
 [Value.string (ByteArray.mk #[]), Value.string (ByteArray.mk #[]), Value.string (ByteArray.mk #[]),
 Value.string (ByteArray.mk #[]), Value.int IntKind.i64 0, Value.int IntKind.i64 0,
 Value.string (ByteArray.mk #[]), Value.slice none 0 0, Value.string (ByteArray.mk #[])]
 2]
 w W →
 CallsS Tryz.prog 31 #[Value.string s, Value.string (ByteArray.mk #[10, 10])] W fun (e : Ending) (w' : World) =>
 ∃ (x : Int),
 e = Ending.returned (Value.int IntKind.i64 x) ∧
 KeptL [n] W w' ∧
 bsp (decide (x < 0))
 (∀ (W : World),
 Loc w.heap.size
 [Blk.mk n 26
 [Value.string (ByteArray.mk #[]), Value.string (ByteArray.mk #[]), Value.string (ByteArray.mk #[]),
 Value.string (ByteArray.mk #[]), Value.int IntKind.i64 0, Value.int IntKind.i64 0,
 Value.string (ByteArray.mk #[]), Value.slice none 0 0, Value.string (ByteArray.mk #[])]
 (wrM 0)]
 w' W →
 R
 (Ending.returned
 (Value.tuple
 #[Value.agg
 #[Value.string (ByteArray.mk #[]), Value.string (ByteArray.mk #[]), Value.string (ByteArray.mk #[]),
 Value.string (ByteArray.mk #[]), Value.int IntKind.i64 0, Value.int IntKind.i64 0,
 Value.string (ByteArray.mk #[]), Value.slice none 0 0, Value.string (ByteArray.mk #[])],
 Value.int IntKind.i64 (↑s.size : Int), Value.int IntKind.i64 4]))
 W)
 ((0 ≤ IntKind.i64.wrap (x + 1) ∧ IntKind.i64.wrap (x + 1) ≤ (↑s.size : Int)) ∧
 CallsS Tryz.prog 32 #[Value.string (s.extract 0 (IntKind.i64.wrap (x + 1)).toNat)] w'
 fun (e : Ending) (w'_1 : World) =>
 ∃ (p : Option Addr),
 ∃ (n_1 : Nat),
 ∃ (c : Nat),
 ∃ (x_1 : Int),
 ∃ (x_2 : Int),
 e =
 Ending.returned
 (Value.tuple #[Value.slice p n_1 c, Value.int IntKind.i64 x_1, Value.int IntKind.i64 x_2]) ∧
 KeptL [n] w' w'_1 ∧
 bsp (x_2 != 0)
 (∀ (W : World),
 Loc w.heap.size
 [Blk.mk n 26
 [Value.string (ByteArray.mk #[]), Value.string (ByteArray.mk #[]),
 Value.string (ByteArray.mk #[]), Value.string (ByteArray.mk #[]), Value.int IntKind.i64 0,
 Value.int IntKind.i64 0, Value.string (ByteArray.mk #[]), Value.slice none 0 0,
 Value.string (ByteArray.mk #[])]
 (wrM 0)]
 w'_1 W →
 R
 (Ending.returned
 (Value.tuple
 #[Value.agg
 #[Value.string (ByteArray.mk #[]), Value.string (ByteArray.mk #[]),
 Value.string (ByteArray.mk #[]), Value.string (ByteArray.mk #[]), Value.int IntKind.i64 0,
 Value.int IntKind.i64 0, Value.string (ByteArray.mk #[]), Value.slice none 0 0,
 Value.string (ByteArray.mk #[])],
 Value.int IntKind.i64 x_1, Value.int IntKind.i64 x_2]))
 W)
 (CallsS Tryz.prog 33 #[Value.slice p n_1 c] w'_1 fun (e : Ending) (w' : World) =>
 ∃ (x_3 : ByteArray),
 ∃ (x_4 : ByteArray),
 ∃ (x_5 : ByteArray),
 ∃ (x_6 : ByteArray),
 ∃ (x_7 : Int),
 ∃ (x_8 : Int),
 ∃ (x_9 : ByteArray),
 ∃ (p : Option Addr),
 ∃ (n_2 : Nat),
 ∃ (c : Nat),
 ∃ (x_10 : ByteArray),
 ∃ (x_11 : Bool),
 e =
 Ending.returned
 (Value.tuple
 #[Value.agg
 #[Value.string x_3, Value.string x_4, Value.string x_5, Value.string x_6,
 Value.int IntKind.i64 x_7, Value.int IntKind.i64 x_8, Value.string x_9,
 Value.slice p n_2 c, Value.string x_10],
 Value.bool x_11]) ∧
 KeptL [n] w'_1 w' ∧
 ∀ (n_3 : Nat),
 bsp (!x_11)
 (∀ (W : World),
 Loc w.heap.size
 [Blk.mk n_3 26
 [Value.string x_3, Value.string x_4, Value.string x_5, Value.string x_6,
 Value.int IntKind.i64 x_7, Value.int IntKind.i64 x_8, Value.string x_9,
 Value.slice p n_2 c, Value.string x_10]
 (wrM 2),
 Blk.mk n 26
 [Value.string (ByteArray.mk #[]), Value.string (ByteArray.mk #[]),
 Value.string (ByteArray.mk #[]), Value.string (ByteArray.mk #[]),
 Value.int IntKind.i64 0, Value.int IntKind.i64 0,
 Value.string (ByteArray.mk #[]), Value.slice none 0 0,
 Value.string (ByteArray.mk #[])]
 (wrM 0)]
 w' W →
 R
 (Ending.returned
 (Value.tuple
 #[Value.agg
 #[Value.string (ByteArray.mk #[]), Value.string (ByteArray.mk #[]),
 Value.string (ByteArray.mk #[]), Value.string (ByteArray.mk #[]),
 Value.int IntKind.i64 0, Value.int IntKind.i64 0,
 Value.string (ByteArray.mk #[]), Value.slice none 0 0,
 Value.string (ByteArray.mk #[])],
 Value.int IntKind.i64 0, Value.int IntKind.i64 3]))
 W)
 ((0 ≤ IntKind.i64.wrap (x + 2) ∧ IntKind.i64.wrap (x + 2) ≤ (↑s.size : Int)) ∧
 ∀ (W : World),
 Loc w.heap.size
 [Blk.mk n_3 26
 [Value.string x_3, Value.string x_4, Value.string x_5, Value.string x_6,
 Value.int IntKind.i64 x_7, Value.int IntKind.i64 x_8, Value.string x_9,
 Value.slice p n_2 c,
 Value.string (s.extract (IntKind.i64.wrap (x + 2)).toNat s.size)]
 (wrM (wrM 2)),
 Blk.mk n 26
 [Value.string (ByteArray.mk #[]), Value.string (ByteArray.mk #[]),
 Value.string (ByteArray.mk #[]), Value.string (ByteArray.mk #[]),
 Value.int IntKind.i64 0, Value.int IntKind.i64 0,
 Value.string (ByteArray.mk #[]), Value.slice none 0 0,
 Value.string (ByteArray.mk #[])]
 0]
 w' W →
 CallsS Tryz.prog 12
 #[Value.agg
 #[Value.string x_3, Value.string x_4, Value.string x_5, Value.string x_6,
 Value.int IntKind.i64 x_7, Value.int IntKind.i64 x_8, Value.string x_9,
 Value.slice p n_2 c,
 Value.string (s.extract (IntKind.i64.wrap (x + 2)).toNat s.size)]]
 W fun (e : Ending) (w' : World) =>
 ∃ (x_12 : ByteArray),
 ∃ (x_13 : Int),
 e =
 Ending.returned
 (Value.tuple #[Value.string x_12, Value.int IntKind.i64 x_13]) ∧
 KeptL [n_3, n] W w' ∧
 bsp (x_13 != 0 || !x_12.toList == s.toList)
 (∀ (W : World),
 Loc w.heap.size
 [Blk.mk n_3 26
 [Value.string x_3, Value.string x_4, Value.string x_5, Value.string x_6,
 Value.int IntKind.i64 x_7, Value.int IntKind.i64 x_8, Value.string x_9,
 Value.slice p n_2 c,
 Value.string (s.extract (IntKind.i64.wrap (x + 2)).toNat s.size)]
 0,
 Blk.mk n 26
 [Value.string (ByteArray.mk #[]), Value.string (ByteArray.mk #[]),
 Value.string (ByteArray.mk #[]), Value.string (ByteArray.mk #[]),
 Value.int IntKind.i64 0, Value.int IntKind.i64 0,
 Value.string (ByteArray.mk #[]), Value.slice none 0 0,
 Value.string (ByteArray.mk #[])]
 (wrM 0)]
 w' W →
 R
 (Ending.returned
 (Value.tuple
 #[Value.agg
 #[Value.string (ByteArray.mk #[]), Value.string (ByteArray.mk #[]),
 Value.string (ByteArray.mk #[]), Value.string (ByteArray.mk #[]),
 Value.int IntKind.i64 0, Value.int IntKind.i64 0,
 Value.string (ByteArray.mk #[]), Value.slice none 0 0,
 Value.string (ByteArray.mk #[])],
 Value.int IntKind.i64 0, Value.int IntKind.i64 3]))
 W)
 (∀ (W : World),
 Loc w.heap.size
 [Blk.mk n_3 26
 [Value.string x_3, Value.string x_4, Value.string x_5, Value.string x_6,
 Value.int IntKind.i64 x_7, Value.int IntKind.i64 x_8, Value.string x_9,
 Value.slice p n_2 c,
 Value.string (s.extract (IntKind.i64.wrap (x + 2)).toNat s.size)]
 0,
 Blk.mk n 26
 [Value.string x_3, Value.string x_4, Value.string x_5, Value.string x_6,
 Value.int IntKind.i64 x_7, Value.int IntKind.i64 x_8, Value.string x_9,
 Value.slice p n_2 c,
 Value.string (s.extract (IntKind.i64.wrap (x + 2)).toNat s.size)]
 (wrM 0)]
 w' W →
 R
 (Ending.returned
 (Value.tuple
 #[Value.agg
 #[Value.string x_3, Value.string x_4, Value.string x_5,
 Value.string x_6, Value.int IntKind.i64 x_7,
 Value.int IntKind.i64 x_8, Value.string x_9, Value.slice p n_2 c,
 Value.string (s.extract (IntKind.i64.wrap (x + 2)).toNat s.size)],
 Value.int IntKind.i64 0, Value.int IntKind.i64 0]))
 W))))
theorem vc_mpar (s : ByteArray) (w : World) (R : Ending → World → Prop) (h : VC_mpar s w R) : Calls Tryz.prog 8 ([Value.string
    s] : List Value).toArray w R := by
  have e : execR2 { P := Tryz.prog, loops := [], pur := purM, tails := [], joins := [], boxes := [] } Tryz.f8.results.toList R (Tryz.f8.body.getD .skip) (initF [Value.string
    s] (Tryz.f8.ntmps - ([Value.string s] : List Value).length)) w = VC_mpar s w R := by kernel_rfl
  have hb : Tryz.f8.body = some (Tryz.f8.body.getD .skip) := by kernel_rfl
  exact calls_of_exec2' (P := Tryz.prog) (fn := Tryz.f8) (c := Tryz.f8.body.getD .skip) (args := [Value.string
    s]) (w := w) (R := R) purM_ok Tryz.func8 hb e h

end Go.Proofs.YtmlmdljnfokebaaGreatDoor

/- Chapter 49: the contracts of the program's parser of a header: fail, line, name, word, body, Parse. No condition but sizes. -/
namespace Go.Proofs.YtmlmdljnfokebaaGreatDoor
open Go.RowKit

/-- The parser's state in the memory. -/
structure PsR (w : World) (B b : Nat) (s : ByteArray) (fr to_ at_ : Int) (p : Option Addr) (c : Nat) (out : List Fd) (er : Int) : Prop where
  blk : w.heap[b]? = some (.cells #[.string s, .int .i64 fr, .int .i64 to_, .int .i64 at_, .slice p out.length c, .int .i64 er] 127 (0, 0))
  row : w.ownsRow B 96 2 (.slice p out.length c) out.length (out.flatMap fC)
  lt : b < B
  le : B ≤ w.heap.size
abbrev KB (B b : Nat) : Nat → Prop := fun k => k = b ∨ B ≤ k
section
variable {w w' : World} {B b : Nat} {s : ByteArray} {fr to_ at_ : Int} {p : Option Addr} {c : Nat} {out : List Fd} {er : Int}
theorem PsR.k0 (h : PsR w B b s fr to_ at_ p c out er) (hk : K0 w w') : PsR w' B b s fr to_ at_ p c out er := ⟨hk.blk h.blk (fun h => h), owns_kp h.row hk (fun _ _ h => h), h.lt, Nat.le_trans h.le hk.size⟩
theorem PsR.rowP (h : PsR w B b s fr to_ at_ p c out er) (hk : Kp (· = b) w w') : w'.ownsRow B 96 2 (.slice p out.length c) out.length (out.flatMap fC) :=
  owns_kp h.row hk (fun k hk e => by have := own_ge h.row hk; have := h.lt; have e : k = b := e; omega)
theorem PsR.leP (h : PsR w B b s fr to_ at_ p c out er) {M : Nat → Prop} (hk : Kp M w w') : B ≤ w'.heap.size := Nat.le_trans h.le hk.size
end
theorem pfail_any {w : World} {B b : Nat} {s : ByteArray} {fr to_ at_ : Int} {p : Option Addr} {c : Nat} {out : List Fd} (h : PsR w B b s fr to_ at_ p c out 0) (a er : Int) :
    Calls Tryz.prog 106 #[.pointer (some ⟨b, 0, none⟩), .int .i64 a, .int .i64 er] w fun e w' => e = .returned (.tuple #[]) ∧ PsR w' B b s fr to_ a p c out er ∧ Kp (· = b) w w' := by
  refine vc_pfail b 0 a er w _ ⟨0, cell_at h.blk rfl, bsp_intro (fun _ => ⟨cell_wr h.blk (by show 3 < 6; omega), fun w1 h1 => ?_⟩) (fun h => by cases h)⟩
  have hb1 : w1.heap[b]? = some (.cells #[.string s, .int .i64 fr, .int .i64 to_, .int .i64 a, .slice p out.length c, .int .i64 0] 127 (0, 0)) := by rw [h1.block h.blk]; rfl
  refine ⟨.of_kp h1.kp (fun _ hx => by cases hx), cell_wr hb1 (by show 5 < 6; omega), fun w2 h2 => ⟨.of_kp h2.kp (fun _ hx => by cases hx), rfl, ⟨?_, ?_, h.lt, ?_⟩, h1.kp.trans h2.kp⟩⟩
  · rw [h2.block hb1]; rfl
  · exact h.rowP (h1.kp.trans h2.kp)
  · exact h.leP (h1.kp.trans h2.kp)

/-! ### Positions -/
theorem idxC (s : ByteArray) (c : UInt8) : Lib.indexByte s.data.toList c = (if findC c s = s.size then (-1 : Int) else (findC c s : Int)) := by
  have hf := findC_first c s
  by_cases h : findC c s = s.size
  · rw [if_pos h]
    refine ixC_miss _ _ fun j hj => ?_
    have := (getC c).1 hj
    exact hf.2.2.1 j (Nat.zero_le _) (by omega) this.2
  · rw [if_neg h]
    have hlt : findC c s < s.size := by have := hf.2.1; omega
    refine ixC_hit _ _ _ ((getC c).2 ⟨hlt, hf.2.2.2 hlt⟩) (fun j hj hc => ?_)
    exact hf.2.2.1 j (Nat.zero_le _) hj ((getC c).1 hc).2
theorem nl_find {s : ByteArray} {a : Nat} (h : a ≤ s.size) : nlN s a = a + findC 10 (s.extract a s.size) := by
  have hf := findC_first 10 (s.extract a s.size)
  have hsz : (s.extract a s.size).size = s.size - a := by rw [ByteArray.size_extract]; omega
  have hl := hf.2.1
  refine (skipN_to notNl s h).uniq ⟨by omega, by omega, fun j j1 j2 => ?_, fun hlt => ?_⟩
  · have h1 := hf.2.2.1 (j - a) (Nat.zero_le _) (by omega)
    rw [at8_extract s a s.size (j - a) (by omega) (Nat.le_refl _), show a + (j - a) = j by omega] at h1
    unfold notNl
    simpa using h1
  · have h1 := hf.2.2.2 (by omega)
    rw [at8_extract s a s.size _ (by omega) (Nat.le_refl _)] at h1
    unfold notNl
    rw [h1]; rfl
theorem bidx_any (s : ByteArray) (b c : Nat) (f : FuncId) (fa fb : Array Value) (g : Int → Bool) (w : World) (hS : ∀ k, k < s.size → w.cell? ⟨b, 0 + k, none⟩ = some (.int .u8 (at8 s k))) (hs : s.size ≤ 1073741824) (hok : okFn Tryz.prog f = true)
    (hF : ∀ x, ∀ w1, K0 w w1 → Calls Tryz.prog f (appA fa [.int .u8 x] fb) w1 fun e w2 => e = .returned (.bool (!g x)) ∧ K0 w1 w2) :
    Calls Tryz.prog 109 #[.slice (some ⟨b, 0, none⟩) s.size c, .func (.func f) fa fb] w fun e w' => e = .returned (.int .i64 (if skipN g s 0 = s.size then (-1 : Int) else (skipN g s 0 : Int))) ∧ K0 w w' := by
  have hk := skipN_to g s (i := 0) (Nat.zero_le _)
  refine vc_bidx (some ⟨b, 0, none⟩) s.size c f fa fb w _ ?_
  refine ⟨fun vs w' => ∃ i : Nat, vs = [.int .i64 (i : Int)] ∧ i ≤ s.size ∧ (∀ j, j < i → g (at8 s j) = true) ∧ K0 w w',
    fun vs _ => (match vs with | .int _ x :: _ => s.size - x.toNat | _ => 0), ⟨0, rfl, by omega, (fun j h => by omega), .refl _ _⟩, ?_⟩
  rintro x w1 ⟨i, hv, hi, hall, k1⟩
  simp only [List.cons.injEq, Value.int.injEq, true_and, and_true] at hv
  subst hv
  refine bsp_intro (fun hlt => ?_) (fun hge => ?_)
  · have hlt : i < s.size := by simp at hlt; omega
    rw [Int.toNat_natCast]
    refine nn_is rfl ⟨⟨by omega, by omega⟩, at8 s i, k1.cell' (hS i hlt) (fun h => h), f, fa, fb, rfl, hok, ⟨(hF (at8 s i) w1 k1).mono fun e w2 ⟨he, k2⟩ => ⟨_, he, .of_k0 k2, bsp_intro (fun hg => ?_) (fun hg => ?_)⟩⟩⟩
    · have hg : g (at8 s i) = false := by simpa using hg
      have e : skipN g s 0 = i := hk.uniq ⟨Nat.zero_le _, by omega, fun j _ hj => hall j hj, fun _ => hg⟩
      rw [e, if_neg (by omega)]
      exact ⟨rfl, k1.trans k2⟩
    · have hg : g (at8 s i) = true := by simpa using hg
      refine ⟨⟨i + 1, by rw [inc64 (by omega)], hlt, fun j hj => ?_, k1.trans k2⟩, by rw [inc64 (by omega)]; simp only [Int.toNat_natCast]; omega⟩
      by_cases e : j = i
      · rw [e]; exact hg
      · exact hall j (by omega)
  · have hi : i = s.size := by simp at hge; omega
    subst hi
    have e : skipN g s 0 = s.size := skip_all hall
    rw [e, if_pos rfl]
    exact ⟨rfl, k1⟩

/-! ### A line -/
def LineQ (w' : World) (B b : Nat) (s : ByteArray) (a : Nat) (p : Option Addr) (c : Nat) (out : List Fd) : Prop :=
  (nlN s a = s.size ∧ ∃ fr to_ : Int, PsR w' B b s fr to_ (s.size : Int) p c out 4) ∨
  (nlN s a < s.size ∧ ∃ (off : Nat) (er : Int), er ≠ 0 ∧ PsR w' B b s (a : Int) (nlN s a : Nat) ((a + off : Nat) : Int) p c out er ∧ ((998 < (s.extract a (nlN s a)).size ∧ off = 998 ∧ er = 5) ∨ ((s.extract a (nlN s a)).size ≤ 998 ∧ skipN okB (s.extract a (nlN s a)) 0 < (s.extract a (nlN s a)).size ∧ off = skipN okB (s.extract a (nlN s a)) 0 ∧ er = 6))) ∨
  (nlN s a < s.size ∧ (s.extract a (nlN s a)).size ≤ 998 ∧ skipN okB (s.extract a (nlN s a)) 0 = (s.extract a (nlN s a)).size ∧ PsR w' B b s (a : Int) (nlN s a : Nat) (a : Int) p c out 0)
set_option maxHeartbeats 2000000 in
theorem pline_any {w : World} {B b : Nat} {s : ByteArray} {fr to_ at_ : Int} {p : Option Addr} {c : Nat} {out : List Fd} (h : PsR w B b s fr to_ at_ p c out 0) (a : Nat) (ha : a ≤ s.size) (hs : s.size ≤ 65536) :
    Calls Tryz.prog 64 #[.pointer (some ⟨b, 0, none⟩), .int .i64 (a : Int)] w fun e w' => e = .returned (.tuple #[]) ∧ LineQ w' B b s a p c out ∧ Kp (KB B b) w w' := by
  refine vc_pline b 0 a w _ ⟨0, cell_at h.blk rfl, bsp_intro (fun h => by cases h) (fun _ => ⟨s, cell_at h.blk rfl, ⟨by omega, by omega⟩, ?_⟩)⟩
  have hnl := nl_find ha
  have hk := skipN_to notNl s ha
  have hsz : (s.extract a s.size).size = s.size - a := by rw [ByteArray.size_extract]; omega
  rw [Int.toNat_natCast]
  refine ⟨(Tryz.strings_IndexByte (s.extract a s.size) 10 w).mono fun e w1 ⟨he, hw⟩ => ⟨_, he, ?_⟩⟩
  subst hw
  rw [show (10 : Int).toNat.toUInt8 = 10 from rfl, idxC]
  refine ⟨.of_k0 (.refl _ _), bsp_intro (fun h1 => ?_) (fun h1 => ?_)⟩
  · have hf : findC 10 (s.extract a s.size) = (s.extract a s.size).size := Classical.byContradiction fun hc => by rw [if_neg hc] at h1; simp at h1; omega
    refine ⟨s, cell_at h.blk rfl, ⟨(pfail_any h (s.size : Int) 4).mono fun e w2 ⟨he, h2, k2⟩ => ⟨he, .of_kp k2 (fun _ hx => by cases hx), rfl, .inl ⟨by unfold nlN at *; omega, _, _, h2⟩, k2.mono fun _ _ e => .inl e⟩⟩⟩
  · have hf : ¬ findC 10 (s.extract a s.size) = (s.extract a s.size).size := fun hc => by rw [if_pos hc] at h1; simp at h1
    rw [if_neg hf]
    have hf2 := (findC_first 10 (s.extract a s.size)).2.1
    have hlt : nlN s a < s.size := by omega
    have hle : a ≤ nlN s a := by omega
    have ew : IntKind.i64.wrap ((a : Int) + (findC 10 (s.extract a s.size) : Nat)) = ((nlN s a : Nat) : Int) := by rw [wr64 (by omega) (by omega), hnl]; omega
    rw [ew]
    have hll : (s.extract a (nlN s a)).size = nlN s a - a := by rw [ByteArray.size_extract]; omega
    refine ⟨cell_wr h.blk (by show 1 < 6; omega), fun w2 p2 => ?_⟩
    have hb2 : w2.heap[b]? = some (.cells #[.string s, .int .i64 (a : Int), .int .i64 to_, .int .i64 at_, .slice p out.length c, .int .i64 0] 127 (0, 0)) := by rw [p2.block h.blk]; rfl
    refine ⟨.of_kp p2.kp (fun _ hx => by cases hx), cell_wr hb2 (by show 2 < 6; omega), fun w3 p3 => ?_⟩
    have hb3 : w3.heap[b]? = some (.cells #[.string s, .int .i64 (a : Int), .int .i64 (nlN s a : Nat), .int .i64 at_, .slice p out.length c, .int .i64 0] 127 (0, 0)) := by rw [p3.block hb2]; rfl
    refine ⟨.of_kp p3.kp (fun _ hx => by cases hx), cell_wr hb3 (by show 3 < 6; omega), fun w4 p4 => ?_⟩
    have hb4 : w4.heap[b]? = some (.cells #[.string s, .int .i64 (a : Int), .int .i64 (nlN s a : Nat), .int .i64 (a : Int), .slice p out.length c, .int .i64 0] 127 (0, 0)) := by rw [p4.block hb3]; rfl
    have k4 := (p2.kp.trans p3.kp).trans p4.kp
    have h4 : PsR w4 B b s (a : Int) (nlN s a : Nat) (a : Int) p c out 0 := ⟨hb4, h.rowP k4, h.lt, h.leP k4⟩
    have k4' : Kp (KB B b) w1 w4 := k4.mono fun _ _ e => .inl e
    refine ⟨.of_kp p4.kp (fun _ hx => by cases hx), bsp_intro (fun h5 => ?_) (fun h5 => fun W hW => ?_)⟩
    · have h5 : 998 < (s.extract a (nlN s a)).size := by simp at h5; omega
      rw [show IntKind.i64.wrap ((a : Int) + 998) = ((a + 998 : Nat) : Int) by rw [wr64 (by omega) (by omega)]; omega]
      exact ⟨(pfail_any h4 ((a + 998 : Nat) : Int) 5).mono fun e w5 ⟨he, h6, k6⟩ => ⟨he, .of_kp k6 (fun _ hx => by cases hx), rfl, .inr (.inl ⟨hlt, 998, 5, by decide, h6, .inl ⟨h5, rfl, rfl⟩⟩), k4'.trans (k6.mono fun _ _ e => .inl e)⟩⟩
    have h5 : (s.extract a (nlN s a)).size ≤ 998 := by simp at h5; omega
    have kW : K0 w4 W := hW.kk rfl
    have hW4 := h4.k0 kW
    refine ⟨fun wx => K0 W wx, .refl _ _, s, fun wx k => cell_at (k.blk hW4.blk (fun h => h)) rfl, (nlN s a : Nat), fun wx k => cell_at (k.blk hW4.blk (fun h => h)) rfl, ⟨by omega, by omega, by omega⟩, ?_⟩
    rw [Int.toNat_natCast]
    intro cc n w5 hc hn
    have k5 : K0 W w5 := (hn.kp (fun _ => False)).of_drew
    have h5' := hW4.k0 k5
    refine ⟨(bidx_any (s.extract a (nlN s a)) n cc 107 #[] #[] okB w5 (fun k hk => byte_cell hn.block hk) (by omega) (by kernel_rfl) (fun x w6 _ => vc_plineC x w6 _ ⟨by congr 2; unfold okB; cases visB x <;> cases blankB x <;> rfl, .refl _ _⟩)).mono fun e w6 ⟨he, k6⟩ => ⟨_, he, .of_k0 (k5.trans k6), ?_⟩⟩
    have h6 := h5'.k0 k6
    have k46 : Kp (KB B b) w1 w6 := k4'.trans (((kW.trans k5).trans k6).mono fun _ _ h => h.elim)
    have hsk := (skipN_to okB (s.extract a (nlN s a)) (i := 0) (Nat.zero_le _)).2.1
    refine bsp_intro (fun h7 => ?_) (fun h7 => ?_)
    · have h7 : ¬ skipN okB (s.extract a (nlN s a)) 0 = (s.extract a (nlN s a)).size := fun hc => by rw [if_pos hc] at h7; simp at h7
      rw [if_neg h7]
      have ew2 : IntKind.i64.wrap ((a : Int) + (skipN okB (s.extract a (nlN s a)) 0 : Nat)) = ((a + skipN okB (s.extract a (nlN s a)) 0 : Nat) : Int) := by rw [wr64 (by omega) (by omega)]; omega
      rw [ew2]
      exact ⟨(pfail_any h6 _ 6).mono fun e w7 ⟨he, h8, k8⟩ => ⟨he, .of_kp k8 (fun _ hx => by cases hx), rfl, .inr (.inl ⟨hlt, _, 6, by decide, h8, .inr ⟨h5, by omega, rfl, rfl⟩⟩), k46.trans (k8.mono fun _ _ e => .inl e)⟩⟩
    · have h7 : skipN okB (s.extract a (nlN s a)) 0 = (s.extract a (nlN s a)).size := Classical.byContradiction fun hc => by rw [if_neg hc] at h7; simp at h7
      exact ⟨rfl, .inr (.inr ⟨hlt, h5, h7, h6⟩), k46⟩

end Go.Proofs.YtmlmdljnfokebaaGreatDoor

/- Chapter 49: the contracts of the program's parser of a header: name, word, body, Parse. No condition but sizes. -/
namespace Go.Proofs.YtmlmdljnfokebaaGreatDoor
open Go.RowKit

/-! ### A name -/
set_option maxHeartbeats 2000000 in
theorem pname_any {w : World} {B b : Nat} {s : ByteArray} {p : Option Addr} {c : Nat} {out : List Fd} {a t : Nat} (h : PsR w B b s (a : Int) (t : Int) (a : Int) p c out 0) (hat : a ≤ t) (ht : t ≤ s.size) (hs : s.size ≤ 65536) (h1 : (s.extract a t).size ≤ 998) (h2 : skipN okB (s.extract a t) 0 = (s.extract a t).size) (ho : out.length ≤ 64) :
    Calls Tryz.prog 65 #[.pointer (some ⟨b, 0, none⟩)] w fun e w' => e = .returned (.tuple #[]) ∧ ((∃ er : Int, er ≠ 0 ∧ PsR w' B b s (a : Int) (t : Int) (a : Int) p c out er ∧ lineP (s.extract a t) out = .inl (0, er)) ∨
      ∃ (st : Nat) (p' : Option Addr) (c' : Nat) (out' : List Fd), PsR w' B b s (a : Int) (t : Int) ((a + st : Nat) : Int) p' c' out' 0 ∧ st ≤ (s.extract a t).size ∧ 0 < out'.length ∧ out'.length ≤ 64 ∧ (lastB out').size ≤ (lastB out).size ∧ lineP (s.extract a t) out = bodyP (s.extract a t) st out') ∧ Kp (KB B b) w w' := by
  have hll : (s.extract a t).size = t - a := by rw [ByteArray.size_extract]; omega
  have hpre : lineP (s.extract a t) out = if contB (s.extract a t) = true then (if out.length = 0 then .inl (0, 3) else bodyP (s.extract a t) 0 out) else if findC 58 (s.extract a t) = (s.extract a t).size then .inl (0, 3) else if nameB ((s.extract a t).extract 0 (findC 58 (s.extract a t))) = false then .inl (0, 12) else if out.length = 64 then .inl (0, 9) else bodyP (s.extract a t) (findC 58 (s.extract a t) + 1) (out ++ [((s.extract a t).extract 0 (findC 58 (s.extract a t)), ⟨#[]⟩)]) := by
    unfold lineP
    rw [if_neg (by omega), if_neg (by omega)]
  have hW0 : ∀ W : World, Loc w.heap.size [] w W → PsR W B b s (a : Int) (t : Int) (a : Int) p c out 0 := fun W hW => h.k0 (hW.kk rfl)
  refine vc_pname b 0 w _ ⟨0, cell_at h.blk rfl, bsp_intro (fun h => by cases h) (fun _ => ⟨s, fun W hW => cell_at (hW0 W hW).blk rfl, a, fun W hW => cell_at (hW0 W hW).blk rfl, t, fun W hW => cell_at (hW0 W hW).blk rfl, ⟨by omega, by omega, by omega⟩, ?_⟩)⟩
  rw [Int.toNat_natCast, Int.toNat_natCast]
  generalize hl : s.extract a t = l at *
  have hne : (!(l.toList == [])) = decide (0 < l.size) := by
    rw [ByteArray.toList_eq]
    rw [Bool.eq_iff_iff]
    simp only [Bool.not_eq_true', beq_eq_false_iff_ne, ne_eq, decide_eq_true_eq]
    constructor
    · intro h; exact Nat.pos_of_ne_zero fun h0 => h (List.eq_nil_of_length_eq_zero (by rw [Array.length_toList]; exact h0))
    · intro h e
      have : l.data.toList.length = 0 := by rw [e]; rfl
      rw [Array.length_toList] at this
      have h : 0 < l.data.size := h
      omega
  rw [hne]
  have hcont : (decide (0 < l.size) && blankB (at8 l 0)) = contB l := rfl
  rw [hcont]
  have err : ∀ (wx : World) (er : Int), er ≠ 0 → PsR wx B b s (a : Int) (t : Int) (a : Int) p c out 0 → lineP l out = .inl (0, er) → Kp (KB B b) w wx → Calls Tryz.prog 106 #[.pointer (some ⟨b, 0, none⟩), .int .i64 (a : Int), .int .i64 er] wx fun e w' => e = .returned (.tuple #[]) ∧ KeptL [] wx w' ∧ (Ending.returned (.tuple #[]) = .returned (.tuple #[]) ∧ ((∃ er : Int, er ≠ 0 ∧ PsR w' B b s (a : Int) (t : Int) (a : Int) p c out er ∧ lineP l out = .inl (0, er)) ∨
      ∃ (st : Nat) (p' : Option Addr) (c' : Nat) (out' : List Fd), PsR w' B b s (a : Int) (t : Int) ((a + st : Nat) : Int) p' c' out' 0 ∧ st ≤ l.size ∧ 0 < out'.length ∧ out'.length ≤ 64 ∧ (lastB out').size ≤ (lastB out).size ∧ lineP l out = bodyP l st out') ∧ Kp (KB B b) w w') := fun wx er he hx hln hk =>
    (pfail_any hx a er).mono fun e w' ⟨h1, h2, h3⟩ => ⟨h1, .of_kp h3 (fun _ hx => by cases hx), rfl, .inl ⟨er, he, h2, hln⟩, hk.trans (h3.mono fun _ _ e => .inl e)⟩
  refine ⟨gimp_intro fun h => ⟨by omega, by simp at h; omega⟩, bsp_intro (fun hc => ⟨p, out.length, c, fun W hW => cell_at (hW0 W hW).blk rfl, bsp_intro (fun h0 => ⟨a, fun W hW => cell_at (hW0 W hW).blk rfl, fun W hW => ?_⟩) (fun h0 => fun W hW => ?_)⟩) (fun hc => fun W hW => ?_)⟩
  · have h0 : out.length = 0 := by simp at h0; simpa using h0
    exact ⟨err W 3 (by decide) (hW0 W hW) (by rw [hpre, if_pos hc, if_pos h0]) ((hW.kk rfl : K0 w W).mono fun _ _ h => h.elim)⟩
  · have h0 : ¬ out.length = 0 := by intro e; rw [e] at h0; cases h0
    exact ⟨rfl, .inr ⟨0, p, c, out, hW0 W hW, Nat.zero_le _, by omega, ho, Nat.le_refl _, by rw [hpre, if_pos hc, if_neg h0]⟩, (hW.kk rfl : K0 w W).mono fun _ _ h => h.elim⟩
  have hc : ¬ contB l = true := by rw [hc]; decide
  rw [if_neg hc] at hpre
  have kW : Kp (KB B b) w W := (hW.kk rfl : K0 w W).mono fun _ _ h => h.elim
  have hWs := hW0 W hW
  refine ⟨(Tryz.strings_IndexByte l 58 W).mono fun e w1 ⟨he, hw⟩ => ⟨_, he, ?_⟩⟩
  subst hw
  rw [show (58 : Int).toNat.toUInt8 = 58 from rfl, idxC]
  have hf2 := (findC_first 58 l).2.1
  refine ⟨.of_k0 (.refl _ _), bsp_intro (fun h3 => ⟨a, cell_at hWs.blk rfl, ?_⟩) (fun h3 => ?_)⟩
  · have hf : findC 58 l = l.size := Classical.byContradiction fun hc => by rw [if_neg hc] at h3; simp at h3; omega
    exact ⟨err w1 3 (by decide) hWs (by rw [hpre, if_pos hf]) kW⟩
  have hf : ¬ findC 58 l = l.size := fun hc => by rw [if_pos hc] at h3; simp at h3
  rw [if_neg hf] at hpre ⊢
  refine ⟨⟨by omega, by omega⟩, ?_⟩
  rw [Int.toNat_natCast]
  generalize hfc : findC 58 l = f at *
  refine ⟨(fvalid_any (l.extract 0 f) w1).mono fun e w2 ⟨he, k2⟩ => ⟨_, he, .of_k0 k2, bsp_intro (fun h4 => ⟨a, cell_at (hWs.k0 k2).blk rfl, ?_⟩) (fun h4 => ?_)⟩⟩
  · have h4 : nameB (l.extract 0 f) = false := by simpa using h4
    exact ⟨err w2 12 (by decide) (hWs.k0 k2) (by rw [hpre, if_pos h4]) (kW.trans (k2.mono fun _ _ h => h.elim))⟩
  have h4 : ¬ nameB (l.extract 0 f) = false := by simpa using h4
  rw [if_neg h4] at hpre
  have kw2 : Kp (KB B b) w w2 := kW.trans (k2.mono fun _ _ h => h.elim)
  have h2s := hWs.k0 k2
  refine ⟨p, out.length, c, cell_at h2s.blk rfl, bsp_intro (fun h5 => ⟨a, cell_at h2s.blk rfl, ?_⟩) (fun h5 => fun W3 hW3 => ?_)⟩
  · have h5 : out.length = 64 := by simp at h5; omega
    exact ⟨err w2 9 (by decide) h2s (by rw [hpre, if_pos h5]) kw2⟩
  have h5 : ¬ out.length = 64 := by intro e; rw [e] at h5; simp at h5
  rw [if_neg h5] at hpre
  have k3 : K0 w2 W3 := hW3.kk rfl
  have h3s := h2s.k0 k3
  refine ⟨fun wx => K0 W3 wx, .refl _ _, p, out.length, c, fun wx k => cell_at (k.blk h3s.blk (fun h => h)) rfl, ⟨by omega, by omega⟩, fun n w4 hn => ⟨hn.kp _, B, _, [.string (l.extract 0 f), .string ⟨#[]⟩], (h3s.k0 (hn.kp _)).row, rfl, src_block hn.block (by intro u hu; simp at hu; rcases hu with rfl | rfl <;> rfl), by omega, by omega, (h3s.k0 (hn.kp _)).le, fun p5 c5 w5 ho5 hg5 _ => ?_⟩⟩
  have h4s := h3s.k0 (hn.kp (fun _ => False))
  have k5 : Kp (KB B b) w4 w5 := (kp_grown hg5).mono fun k _ e => .inr (own_ge h4s.row e)
  have hb5 : w5.heap[b]? = _ := (kp_grown hg5).blk h4s.blk (fun e => by have := own_ge h4s.row e; have := h.lt; omega)
  refine ⟨cell_wr hb5 (by show 4 < 6; omega), fun w6 p6 => ?_⟩
  have hb6 : w6.heap[b]? = some (.cells #[.string s, .int .i64 (a : Int), .int .i64 (t : Int), .int .i64 (a : Int), .slice p5 (out.length + 1) c5, .int .i64 0] 127 (0, 0)) := by rw [p6.block hb5]; rfl
  refine ⟨⟨by rw [p6.size]; exact Nat.le_trans (hn.kp (fun _ => False)).size k5.size, fun _ hx => by cases hx⟩, a, cell_at hb6 rfl, cell_wr hb6 (by show 3 < 6; omega), fun w7 p7 => ?_⟩
  have ew : IntKind.i64.wrap (IntKind.i64.wrap ((a : Int) + (f : Int)) + 1) = ((a + (f + 1) : Nat) : Int) := by rw [wr64 (x := (a : Int) + f) (by omega) (by omega), wr64 (by omega) (by omega)]; omega
  rw [ew] at p7
  have hb7 : w7.heap[b]? = some (.cells #[.string s, .int .i64 (a : Int), .int .i64 (t : Int), .int .i64 ((a + (f + 1) : Nat) : Int), .slice p5 (out.length + 1) c5, .int .i64 0] 127 (0, 0)) := by rw [p7.block hb6]; rfl
  have k67 := p6.kp.trans p7.kp
  have e1 : (out ++ [(l.extract 0 f, (⟨#[]⟩ : ByteArray))]).length = out.length + 1 := by simp
  refine ⟨.of_kp p7.kp (fun _ hx => by cases hx), rfl, .inr ⟨f + 1, p5, c5, out ++ [(l.extract 0 f, ⟨#[]⟩)], ⟨by rw [e1]; exact hb7, ?_, h.lt, ?_⟩, by omega, by rw [e1]; omega, by rw [e1]; omega, by rw [lastB_snoc]; exact Nat.zero_le _, hpre⟩, ?_⟩
  · rw [e1, List.flatMap_append]
    refine owns_kp ho5 k67 (fun k hk e => ?_)
    have := own_ge ho5 hk
    have e : k = b := e
    have := h.lt
    omega
  · exact Nat.le_trans h4s.le (Nat.le_trans k5.size k67.size)
  · exact ((kw2.trans (k3.mono fun _ _ h => h.elim)).trans ((hn.kp (fun _ => False)).mono fun _ _ h => h.elim)).trans (k5.trans (k67.mono fun _ _ e => .inl e))

end Go.Proofs.YtmlmdljnfokebaaGreatDoor
