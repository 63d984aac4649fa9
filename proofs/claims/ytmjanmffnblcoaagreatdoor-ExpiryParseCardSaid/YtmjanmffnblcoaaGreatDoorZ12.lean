/- The formulas of functions by the symbolic evaluator, and that each gives the call's contract. Written by a program (gen.py). No condition. -/
import Derived.Test.YtmjanmffnblcoaaGreatDoorProg
import Derived.Test.YtmjanmffnblcoaaGreatDoorZ02
import Derived.Test.YtmjanmffnblcoaaGreatDoorZ06
import Derived.KernelRfl
import Derived.Test.YtmjanmffnblcoaaGreatDoorZ11
import Derived.Test.YtmjanmffnblcoaaGreatDoorZ08
import Derived.Test.YtmjanmffnblcoaaGreatDoorZ04
import Derived.Test.YtmjanmffnblcoaaGreatDoorZ09
namespace Go.Proofs.YtmjanmffnblcoaaGreatDoor
set_option maxRecDepth 100000
set_option linter.unusedVariables false

def VC_rcompile (s : ByteArray) (w : World) (R : Ending → World → Prop) : Prop :=
 ∀ (n : Nat) (w1 : World),
 NewB w (Obj.cells #[Value.string (ByteArray.mk #[]), Value.slice none 0 0] 90) n w1 →
 bsp (s.toList == [])
 (WrL w1 n 0 2 ∧
 ∀ (w1_1 : World),
 PutB w1 n 0 [Value.string (ByteArray.mk #[]), Value.slice none 0 0] w1_1 →
 ∃ (x : ByteArray),
 ∃ (p : Option Addr),
 ∃ (n_1 : Nat),
 ∃ (c : Nat),
 AtL w1_1 n 0 [Value.string x, Value.slice p n_1 c] ∧
 R
 (Ending.returned
 (Value.tuple
 #[Value.agg #[Value.string x, Value.slice p n_1 c], Value.int IntKind.i64 0, Value.int IntKind.i64 4]))
 w1_1)
 (bsp (decide ((↑s.size : Int) > 80))
 (WrL w1 n 0 2 ∧
 ∀ (w1_1 : World),
 PutB w1 n 0 [Value.string (ByteArray.mk #[]), Value.slice none 0 0] w1_1 →
 ∃ (x : ByteArray),
 ∃ (p : Option Addr),
 ∃ (n_1 : Nat),
 ∃ (c : Nat),
 AtL w1_1 n 0 [Value.string x, Value.slice p n_1 c] ∧
 R
 (Ending.returned
 (Value.tuple
 #[Value.agg #[Value.string x, Value.slice p n_1 c], Value.int IntKind.i64 80, Value.int IntKind.i64 5]))
 w1_1)
 (∀ (n_1 : Nat) (w1_1 : World),
 NewB w1 (Obj.cells #[Value.string (ByteArray.mk #[]), Value.slice none 0 0] 90) n_1 w1_1 →
 WrL w1_1 n_1 0 2 ∧
 ∀ (w1 : World),
 PutB w1_1 n_1 0 [Value.string s, Value.slice none 0 0] w1 →
 ∃ (I : List Value → World → Prop),
 ∃ (m : List Value → World → Nat),
 I [Value.int IntKind.i64 0] w1 ∧
 ∀ (x : Int) (w' : World),
 I [Value.int IntKind.i64 x] w' →
 bsp (decide (x < (↑s.size : Int)))
 (∀ (n_2 : Nat) (w1 : World),
 NewB w'
 (Obj.cells
 #[Value.bool false, Value.bool false, Value.bool false, Value.bool false, Value.bool false,
 Value.bool false, Value.bool false, Value.bool false, Value.bool false, Value.bool false,
 Value.bool false, Value.bool false, Value.bool false, Value.bool false, Value.bool false,
 Value.bool false, Value.bool false, Value.bool false, Value.bool false, Value.bool false,
 Value.bool false, Value.bool false, Value.bool false, Value.bool false, Value.bool false,
 Value.bool false, Value.bool false, Value.bool false, Value.bool false, Value.bool false,
 Value.bool false, Value.bool false, Value.bool false, Value.bool false, Value.bool false,
 Value.bool false, Value.bool false, Value.bool false, Value.bool false, Value.bool false,
 Value.bool false, Value.bool false, Value.bool false, Value.bool false, Value.bool false,
 Value.bool false, Value.bool false, Value.bool false, Value.bool false, Value.bool false,
 Value.bool false, Value.bool false, Value.bool false, Value.bool false, Value.bool false,
 Value.bool false, Value.bool false, Value.bool false, Value.bool false, Value.bool false,
 Value.bool false, Value.bool false, Value.bool false, Value.bool false, Value.bool false,
 Value.bool false, Value.bool false, Value.bool false, Value.bool false, Value.bool false,
 Value.bool false, Value.bool false, Value.bool false, Value.bool false, Value.bool false,
 Value.bool false, Value.bool false, Value.bool false, Value.bool false, Value.bool false,
 Value.bool false, Value.bool false, Value.bool false, Value.bool false, Value.bool false,
 Value.bool false, Value.bool false, Value.bool false, Value.bool false, Value.bool false,
 Value.bool false, Value.bool false, Value.bool false, Value.bool false, Value.bool false,
 Value.bool false, Value.bool false, Value.bool false, Value.bool false, Value.bool false,
 Value.bool false, Value.bool false, Value.bool false, Value.bool false, Value.bool false,
 Value.bool false, Value.bool false, Value.bool false, Value.bool false, Value.bool false,
 Value.bool false, Value.bool false, Value.bool false, Value.bool false, Value.bool false,
 Value.bool false, Value.bool false, Value.bool false, Value.bool false, Value.bool false,
 Value.bool false, Value.bool false, Value.bool false, Value.bool false, Value.bool false,
 Value.bool false, Value.bool false, Value.bool false, Value.bool false]
 120)
 n_2 w1 →
 ∃ (J : List Value → World → Prop),
 ((0 ≤ x ∧ x < (↑s.size : Int)) ∧
 bsp (at8 s x.toNat == 42)
 (((∃ (u : Value), w1.cell? (Addr.mk n_2 0 none) = some u) ∧
 w1.frozen? (Addr.mk n_2 0 none) = false) ∧
 ∀ (w1_2 : World), PutB w1 n_2 0 [Value.bool true] w1_2 → J [Value.int IntKind.i64 x] w1_2)
 ((0 ≤ x ∧ x < (↑s.size : Int)) ∧
 bsp (at8 s x.toNat == 63)
 (∃ (I : List Value → World → Prop),
 ∃ (m : List Value → World → Nat),
 I [Value.int IntKind.i64 0] w1 ∧
 ∀ (x_1 : Int) (w' : World),
 I [Value.int IntKind.i64 x_1] w' →
 bsp (decide (x_1 < 128))
 ((0 ≤ x_1 ∧ x_1 < (↑128 : Int)) ∧
 ((∃ (u : Value), w'.cell? (Addr.mk n_2 (0 + 1 + x_1.toNat) none) = some u) ∧
 w'.frozen? (Addr.mk n_2 (0 + 1 + x_1.toNat) none) = false) ∧
 ∀ (w1 : World),
 PutB w' n_2 (0 + 1 + x_1.toNat) [Value.bool (charB (IntKind.u8.wrap x_1))] w1 →
 I [Value.int IntKind.i64 (IntKind.i64.wrap (x_1 + 1))] w1 ∧
 m [Value.int IntKind.i64 (IntKind.i64.wrap (x_1 + 1))] w1 <
 m [Value.int IntKind.i64 x_1] w')
 (J [Value.int IntKind.i64 x] w'))
 ((0 ≤ x ∧ x < (↑s.size : Int)) ∧
 bsp (at8 s x.toNat == 91)
 (CallsS Tryz.prog 59 #[Value.string s, Value.int IntKind.i64 x] w1
 fun (e : Ending) (w'_1 : World) =>
 ∃ (x_1 : Bool),
 ∃ (f : Nat → Bool),
 ∃ (x_2 : Int),
 e =
 Ending.returned
 (Value.tuple
 #[Value.agg
 ([Value.bool x_1] ++ arrBo f 128 0).toArray,
 Value.int IntKind.i64 x_2]) ∧
 ∀ (n_3 : Nat) (w1 : World),
 NewB w'_1
 (Obj.cells
 #[Value.bool false, Value.bool false, Value.bool false, Value.bool false,
 Value.bool false, Value.bool false, Value.bool false, Value.bool false,
 Value.bool false, Value.bool false, Value.bool false, Value.bool false,
 Value.bool false, Value.bool false, Value.bool false, Value.bool false,
 Value.bool false, Value.bool false, Value.bool false, Value.bool false,
 Value.bool false, Value.bool false, Value.bool false, Value.bool false,
 Value.bool false, Value.bool false, Value.bool false, Value.bool false,
 Value.bool false, Value.bool false, Value.bool false, Value.bool false,
 Value.bool false, Value.bool false, Value.bool false, Value.bool false,
 Value.bool false, Value.bool false, Value.bool false, Value.bool false,
 Value.bool false, Value.bool false, Value.bool false, Value.bool false,
 Value.bool false, Value.bool false, Value.bool false, Value.bool false,
 Value.bool false, Value.bool false, Value.bool false, Value.bool false,
 Value.bool false, Value.bool false, Value.bool false, Value.bool false,
 Value.bool false, Value.bool false, Value.bool false, Value.bool false,
 Value.bool false, Value.bool false, Value.bool false, Value.bool false,
 Value.bool false, Value.bool false, Value.bool false, Value.bool false,
 Value.bool false, Value.bool false, Value.bool false, Value.bool false,
 Value.bool false, Value.bool false, Value.bool false, Value.bool false,
 Value.bool false, Value.bool false, Value.bool false, Value.bool false,
 Value.bool false, Value.bool false, Value.bool false, Value.bool false,
 Value.bool false, Value.bool false, Value.bool false, Value.bool false,
 Value.bool false, Value.bool false, Value.bool false, Value.bool false,
 Value.bool false, Value.bool false, Value.bool false, Value.bool false,
 Value.bool false, Value.bool false, Value.bool false, Value.bool false,
 Value.bool false, Value.bool false, Value.bool false, Value.bool false,
 Value.bool false, Value.bool false, Value.bool false, Value.bool false,
 Value.bool false, Value.bool false, Value.bool false, Value.bool false,
 Value.bool false, Value.bool false, Value.bool false, Value.bool false,
 Value.bool false, Value.bool false, Value.bool false, Value.bool false,
 Value.bool false, Value.bool false, Value.bool false, Value.bool false,
 Value.bool false, Value.bool false, Value.bool false, Value.bool false,
 Value.bool false]
 120)
 n_3 w1 →
 WrL w1 n_3 0 129 ∧
 ∀ (w1_2 : World),
 PutB w1 n_3 0
 ([Value.bool x_1] ++ arrBo f 128 0)
 w1_2 →
 bsp (decide (x_2 < 0))
 (WrL w1_2 n 0 2 ∧
 ∀ (w1 : World),
 PutB w1_2 n 0 [Value.string (ByteArray.mk #[]), Value.slice none 0 0] w1 →
 ∃ (x_3 : ByteArray),
 ∃ (p : Option Addr),
 ∃ (n_4 : Nat),
 ∃ (c : Nat),
 AtL w1 n 0 [Value.string x_3, Value.slice p n_4 c] ∧
 R
 (Ending.returned
 (Value.tuple
 #[Value.agg #[Value.string x_3, Value.slice p n_4 c],
 Value.int IntKind.i64 x, Value.int IntKind.i64 3]))
 w1)
 (∃ (p : Option Addr),
 ∃ (n : Nat),
 ∃ (c : Nat),
 w1_2.cell? (Addr.mk n_1 (0 + 1) none) = some (Value.slice p n c) ∧
 ∃ (x_3 : Bool),
 ∃ (f : Nat → Bool),
 AtL w1_2 n_3 0
 ([Value.bool x_3] ++ arrBo f 128 0) ∧
 ∀ (n_4 : Nat) (w1 : World),
 NewB w1_2
 (Obj.cells
 ([Value.bool x_3] ++ arrBo f 128 0).toArray
 120)
 n_4 w1 →
 ∃ (base : Nat),
 ∃ (xs : List Value),
 ∃ (news : List Value),
 w1.ownsRow base 120 129 (Value.slice p n c) n xs ∧
 news.length = 129 ∧
 SrcP w1 (some (Addr.mk n_4 0 none)) news ∧
 n + 1 ≤ 9223372036854775807 ∧
 (n + 1) * 129 ≤ 140737488355328 ∧
 base ≤ w1.heap.size ∧
 ∀ (p' : Option Addr) (c' : Nat) (w'_2 : World),
 w'_2.ownsRow base 120 129 (Value.slice p' (n + 1) c') (n + 1)
 (xs ++ news) →
 w1.grownBy w'_2 (Value.slice p n c).ownBlock →
 (n + 1 ≤ c → p' = p ∧ c' = c) →
 ((∃ (u : Value),
 w'_2.cell? (Addr.mk n_1 (0 + 1) none) = some u) ∧
 w'_2.frozen? (Addr.mk n_1 (0 + 1) none) = false) ∧
 ∀ (w1 : World),
 PutB w'_2 n_1 (0 + 1) [Value.slice p' (n + 1) c'] w1 →
 I [Value.int IntKind.i64 x_2] w1 ∧
 m [Value.int IntKind.i64 x_2] w1 <
 m [Value.int IntKind.i64 x] w'))
 ((0 ≤ x ∧ x < (↑s.size : Int)) ∧
 bsp (charB (at8 s x.toNat))
 ((0 ≤ x ∧ x < (↑s.size : Int)) ∧
 (0 ≤ at8 s x.toNat ∧ at8 s x.toNat < (↑128 : Int)) ∧
 ((∃ (u : Value), w1.cell? (Addr.mk n_2 (0 + 1 + (at8 s x.toNat).toNat) none) = some u) ∧
 w1.frozen? (Addr.mk n_2 (0 + 1 + (at8 s x.toNat).toNat) none) = false) ∧
 ∀ (w1_2 : World),
 PutB w1 n_2 (0 + 1 + (at8 s x.toNat).toNat) [Value.bool true] w1_2 →
 J [Value.int IntKind.i64 x] w1_2)
 (WrL w1 n 0 2 ∧
 ∀ (w1_2 : World),
 PutB w1 n 0 [Value.string (ByteArray.mk #[]), Value.slice none 0 0] w1_2 →
 ∃ (x_1 : ByteArray),
 ∃ (p : Option Addr),
 ∃ (n_3 : Nat),
 ∃ (c : Nat),
 AtL w1_2 n 0 [Value.string x_1, Value.slice p n_3 c] ∧
 R
 (Ending.returned
 (Value.tuple
 #[Value.agg #[Value.string x_1, Value.slice p n_3 c], Value.int IntKind.i64 x,
 Value.int IntKind.i64 6]))
 w1_2))))) ∧
 ∀ (x_1 : Int) (w'_1 : World),
 J [Value.int IntKind.i64 x_1] w'_1 →
 ∃ (p : Option Addr),
 ∃ (n : Nat),
 ∃ (c : Nat),
 w'_1.cell? (Addr.mk n_1 (0 + 1) none) = some (Value.slice p n c) ∧
 ∃ (x_2 : Bool),
 ∃ (f : Nat → Bool),
 AtL w'_1 n_2 0
 ([Value.bool x_2] ++ arrBo f 128 0) ∧
 ∀ (n_3 : Nat) (w1 : World),
 NewB w'_1
 (Obj.cells
 ([Value.bool x_2] ++ arrBo f 128 0).toArray
 120)
 n_3 w1 →
 ∃ (base : Nat),
 ∃ (xs : List Value),
 ∃ (news : List Value),
 w1.ownsRow base 120 129 (Value.slice p n c) n xs ∧
 news.length = 129 ∧
 SrcP w1 (some (Addr.mk n_3 0 none)) news ∧
 n + 1 ≤ 9223372036854775807 ∧
 (n + 1) * 129 ≤ 140737488355328 ∧
 base ≤ w1.heap.size ∧
 ∀ (p' : Option Addr) (c' : Nat) (w'_2 : World),
 w'_2.ownsRow base 120 129 (Value.slice p' (n + 1) c') (n + 1) (xs ++ news) →
 w1.grownBy w'_2 (Value.slice p n c).ownBlock →
 (n + 1 ≤ c → p' = p ∧ c' = c) →
 ((∃ (u : Value), w'_2.cell? (Addr.mk n_1 (0 + 1) none) = some u) ∧
 w'_2.frozen? (Addr.mk n_1 (0 + 1) none) = false) ∧
 ∀ (w1 : World),
 PutB w'_2 n_1 (0 + 1) [Value.slice p' (n + 1) c'] w1 →
 I [Value.int IntKind.i64 (IntKind.i64.wrap (x_1 + 1))] w1 ∧
 m [Value.int IntKind.i64 (IntKind.i64.wrap (x_1 + 1))] w1 <
 m [Value.int IntKind.i64 x] w')
 (∃ (x : ByteArray),
 ∃ (p : Option Addr),
 ∃ (n_2 : Nat),
 ∃ (c : Nat),
 AtL w' n_1 0 [Value.string x, Value.slice p n_2 c] ∧
 WrL w' n 0 2 ∧
 ∀ (w1 : World),
 PutB w' n 0 [Value.string x, Value.slice p n_2 c] w1 →
 ∃ (x : ByteArray),
 ∃ (p : Option Addr),
 ∃ (n_3 : Nat),
 ∃ (c : Nat),
 AtL w1 n 0 [Value.string x, Value.slice p n_3 c] ∧
 R
 (Ending.returned
 (Value.tuple
 #[Value.agg #[Value.string x, Value.slice p n_3 c], Value.int IntKind.i64 0,
 Value.int IntKind.i64 0]))
 w1)))
theorem vc_rcompile (s : ByteArray) (w : World) (R : Ending → World → Prop) (h : VC_rcompile s w R) : Calls Tryz.prog 34 ([Value.string
    s] : List Value).toArray w R := by
  have e : execR { P := Tryz.prog, loops := [(7, [(6, Ck.int IntKind.i64)]), (14, [(8, Ck.int IntKind.i64)])], pur := pur1, tails := [], joins := [(25, [(6, Ck.int IntKind.i64)])], boxes := [] } Tryz.f34.results.toList R (Tryz.f34.body.getD .skip) (initF [Value.string
    s] (Tryz.f34.ntmps - ([Value.string s] : List Value).length)) w = VC_rcompile s w R := by kernel_rfl
  have hb : Tryz.f34.body = some (Tryz.f34.body.getD .skip) := by kernel_rfl
  exact calls_of_exec' (P := Tryz.prog) (fn := Tryz.f34) (c := Tryz.f34.body.getD .skip) (args := [Value.string
    s]) (w := w) (R := R) pur1_ok Tryz.func34 hb e h

end Go.Proofs.YtmjanmffnblcoaaGreatDoor

/- The contract of the reference's Compile: it agrees with the program's. No condition. -/
namespace Go.Proofs.YtmjanmffnblcoaaGreatDoor
open Go.RowKit

/-- The cells of elements of the reference. -/
def rows (rs : List RE) : List Value := rs.flatMap fun r => reL r.star r.set
theorem rows_length : ∀ rs : List RE, (rows rs).length = rs.length * 129
  | [] => rfl
  | r :: rs => by
    have := rows_length rs
    unfold rows at this ⊢
    rw [List.flatMap_cons, List.length_append, reL_length, this, List.length_cons]
    omega
theorem rows_snoc (rs : List RE) (r : RE) : rows (rs ++ [r]) = rows rs ++ reL r.star r.set := by simp [rows]
/-- A pattern that is being made. -/
def RSt (w : World) (n : Nat) (s : ByteArray) (rs : List RE) : Prop :=
  ∃ (p : Option Addr) (c : Nat), w.heap[n]? = some (.cells #[.string s, .slice p rs.length c] 90 (0, 0)) ∧ w.ownsRow (n + 1) 120 129 (.slice p rs.length c) rs.length (rows rs)
theorem RSt.kp {w w' : World} {n : Nat} {s : ByteArray} {rs : List RE} (h : RSt w n s rs) (hk : K0 w w') : RSt w' n s rs := by
  obtain ⟨p, c, h1, h2⟩ := h
  exact ⟨p, c, hk.blk h1 (fun h => h), owns_kp h2 hk (fun _ _ h => h)⟩
def PB (w : World) (n : Nat) : Prop := ∃ v u, w.heap[n]? = some (.cells #[v, u] 90 (0, 0))
theorem PB.kp {M : Nat → Prop} {w w' : World} {n : Nat} (h : PB w n) (hk : Kp M w w') (hm : ¬ M n) : PB w' n := by
  obtain ⟨v, u, h⟩ := h; exact ⟨v, u, hk.blk h hm⟩
theorem PB.wr {w : World} {n : Nat} (h : PB w n) : WrL w n 0 2 := by obtain ⟨v, u, h⟩ := h; exact WrL_block h (by simp)
theorem PB.put {w w1 : World} {n : Nat} (h : PB w n) {v u : Value} (hp : PutB w n 0 [v, u] w1) : w1.heap[n]? = some (.cells #[v, u] 90 (0, 0)) := by
  obtain ⟨v', u', h⟩ := h; exact hp.full h rfl
theorem SetB.star {w w1 : World} {n : Nat} {b : Bool} {f : Nat → Bool} (h : SetB w n b f) {v : Bool} (hp : PutB w n 0 [.bool v] w1) : SetB w1 n v f := by
  have := hp.block h
  unfold SetB
  rw [this]
  congr 2
theorem reL_one (b : Bool) (f : Nat → Bool) : ∀ u ∈ reL b f, u.oneCell' = true := by
  intro u hu
  unfold reL at hu
  rcases List.mem_append.1 hu with h | h
  · simp at h; subst h; rfl
  · obtain ⟨j, hj, e⟩ := List.getElem_of_mem h
    have hj' : j < 128 := by rw [arrBo_length] at hj; exact hj
    have := arrBo_get f 128 0 j hj'
    rw [List.getElem?_eq_getElem hj] at this
    simp at this
    rw [← e, this]; rfl
theorem extract1 {s : ByteArray} {k : Nat} (h : k < s.size) : s.extract k (k + 1) = b1 (at8 s k) := by
  have hsz : (s.extract k (k + 1)).size = 1 := by rw [ByteArray.size_extract]; omega
  have hb := at8_byte (s := s.extract k (k + 1)) (k := 0) (by omega)
  rw [at8_extract s k (k + 1) 0 (by omega) (by omega)] at hb
  have hl : (s.extract k (k + 1)).data.toList.length = 1 := by rw [Array.length_toList]; exact hsz
  have : (s.extract k (k + 1)).data.toList = [(at8 s k).toNat.toUInt8] := by
    match hm : (s.extract k (k + 1)).data.toList, hl with
    | [a], _ => rw [hm] at hb; simp at hb; rw [hb]
  unfold b1
  cases hx : s.extract k (k + 1) with
  | mk d =>
    rw [hx] at this
    congr 1
    apply Array.toList_inj.1
    simpa using this
theorem rel_star : RelE .star ⟨true, fun _ => false⟩ := ⟨rfl, (fun h => by cases h), fun c h0 h1 h => by rw [← name_char c h0 h1]; exact h⟩
theorem rel_one (f : Nat → Bool) (hf : ∀ c : Nat, c < 128 → f c = charB c) : RelE .one ⟨false, f⟩ := ⟨rfl, fun _ c hc => by
  show hasB nameBytes c = f c
  rw [name_char c (by omega) (by omega), hf c hc], fun c h0 h1 h => by rw [← name_char c h0 h1]; exact h⟩
theorem rel_lit {s : ByteArray} {k : Nat} (h : k < s.size) (hc : charB (at8 s k) = true) (f : Nat → Bool) (hf : ∀ c : Nat, c < 128 → f c = decide ((c : Int) = at8 s k)) : RelE (.lit (s.extract k (k + 1))) ⟨false, f⟩ := by
  have hh : ∀ c : Int, 0 ≤ c → c ≤ 255 → hasB (El.lit (s.extract k (k + 1))).chars c = decide (c = at8 s k) := fun c h0 h1 => by
    show hasB (s.extract k (k + 1)) c = _
    rw [extract1 h]
    have := hasB_b1 (a := ⟨#[]⟩) (c := at8 s k) (d := c) (at8_bd s k) ⟨h0, h1⟩
    have e : (⟨#[]⟩ : ByteArray) ++ b1 (at8 s k) = b1 (at8 s k) := ByteArray.empty_append
    rw [e] at this
    rw [this]
    have : hasB ⟨#[]⟩ c = false := rfl
    rw [this, Bool.false_or]
  refine ⟨rfl, fun _ c hc => ?_, fun c h0 h1 hx => ?_⟩
  · show _ = f c
    rw [hh c (by omega) (by omega), hf c hc]
  · rw [hh c h0 h1] at hx
    have : c = at8 s k := by simpa using hx
    rw [this]; exact hc

/-- What the reference's Compile yields. -/
def RcPost (s : ByteArray) (w : World) (e : Ending) (w' : World) : Prop := K0 w w' ∧
    match compileR s with
    | .inl els => ∃ p c rs, e = .returned (.tuple #[.agg #[.string s, .slice p rs.length c], .int .i64 0, .int .i64 0]) ∧ w'.ownsRow w.heap.size 120 129 (.slice p rs.length c) rs.length (rows rs) ∧ RelEs els rs
    | .inr (o, x) => e = .returned (.tuple #[.agg #[.string ⟨#[]⟩, .slice none 0 0], .int .i64 o, .int .i64 x])
set_option maxHeartbeats 1000000 in
set_option maxRecDepth 100000 in
theorem rcompile_any (s : ByteArray) (w : World) : Calls Tryz.prog 34 #[.string s] w (RcPost s w) := by
  refine vc_rcompile s w _ ?_
  intro n w1 hn
  have p1 : PB w1 n := ⟨_, _, hn.block⟩
  have gn : w.heap.size ≤ n := hn.ge
  have k1 : K0 w w1 := hn.kp _
  have fail : ∀ (wx : World) (o : Int) (x : Int), PB wx n → K0 w wx → (∀ w', K0 w w' → RcPost s w (.returned (.tuple #[.agg #[.string ⟨#[]⟩, .slice none 0 0], .int .i64 o, .int .i64 x])) w') →
      WrL wx n 0 2 ∧ ∀ (w1 : World), PutB wx n 0 [.string ⟨#[]⟩, .slice none 0 0] w1 → ∃ (x_1 : ByteArray) (p : Option Addr) (n_1 c : Nat), AtL w1 n 0 [.string x_1, .slice p n_1 c] ∧ RcPost s w (.returned (.tuple #[.agg #[.string x_1, .slice p n_1 c], .int .i64 o, .int .i64 x])) w1 := fun wx o x hpb hkx hfin =>
    ⟨hpb.wr, fun wy hp => ⟨_, _, _, _, AtL_block (hpb.put hp) rfl, hfin wy (hkx.fresh hp.kp (fun i hi e => by omega))⟩⟩
  rw [toList_nil]
  refine bsp_intro (fun h0 => ?_) (fun h0 => bsp_intro (fun h1 => ?_) (fun h1 => ?_))
  · have h0 : s.size = 0 := by simpa using h0
    exact fail w1 0 4 p1 k1 (fun w' hk => ⟨hk, by simp only [compileR, h0, if_true]; rfl⟩)
  · have h0 : ¬ s.size = 0 := by simpa using h0
    have h1 : 80 < s.size := by simp at h1; omega
    exact fail w1 80 5 p1 k1 (fun w' hk => ⟨hk, by simp only [compileR, h0, h1, if_true, if_false]; rfl⟩)
  have h0 : ¬ s.size = 0 := by simpa using h0
  have h1 : ¬ 80 < s.size := by simp at h1; omega
  have hR : compileR s = compS s s.size 0 [] := by simp only [compileR, h0, h1, if_false]
  intro n1 w2 hn1
  have hn1' : n < n1 := by have := hn.size; have := hn1.hn; omega
  refine ⟨WrL_block hn1.block (by simp), fun w3 hp3 => ?_⟩
  have k13 : K0 w1 w3 := (hn1.kp (fun _ => False)).fresh hp3.kp (fun i hi e => by have := hn1.hn; omega)
  have st3 : RSt w3 n1 s [] := ⟨none, 0, hp3.full hn1.block rfl, World.ownsRow_nil _ _ _ _⟩
  -- one element more
  have app : ∀ (b : Bool) (f : Nat → Bool) (rs : List RE) (wa : World), RSt wa n1 s rs → PB wa n → K0 w wa → rs.length ≤ 80 →
      ∃ (p : Option Addr) (n_3 c : Nat), wa.cell? (Addr.mk n1 (0 + 1) none) = some (.slice p n_3 c) ∧ ∀ (n_2 : Nat), SetB wa n_2 b f → ∃ (x_2 : Bool) (f' : Nat → Bool), AtL wa n_2 0 ([Value.bool x_2] ++ arrBo f' 128 0) ∧ ∀ (n_4 : Nat) (wb : World), NewB wa (.cells ([Value.bool x_2] ++ arrBo f' 128 0).toArray 120) n_4 wb → ∀ (Y : World → Prop), (∀ w2, RSt w2 n1 s (rs ++ [⟨b, f⟩]) → PB w2 n → K0 w w2 → Y w2) →
        ∃ (base : Nat) (xs news : List Value), wb.ownsRow base 120 129 (.slice p n_3 c) n_3 xs ∧ news.length = 129 ∧ SrcP wb (some (Addr.mk n_4 0 none)) news ∧ n_3 + 1 ≤ 9223372036854775807 ∧ (n_3 + 1) * 129 ≤ 140737488355328 ∧ base ≤ wb.heap.size ∧
          ∀ (p' : Option Addr) (c' : Nat) (w' : World), w'.ownsRow base 120 129 (.slice p' (n_3 + 1) c') (n_3 + 1) (xs ++ news) → wb.grownBy w' (Value.slice p n_3 c).ownBlock → (n_3 + 1 ≤ c → p' = p ∧ c' = c) →
            ((∃ (u : Value), w'.cell? (Addr.mk n1 (0 + 1) none) = some u) ∧ w'.frozen? (Addr.mk n1 (0 + 1) none) = false) ∧ ∀ (w1 : World), PutB w' n1 (0 + 1) [Value.slice p' (n_3 + 1) c'] w1 → Y w1 := by
    intro b f rs wa ⟨p, c, hb, ho⟩ hpb hwa hlen
    refine ⟨p, rs.length, c, cell_at hb rfl, fun n_2 hs => ⟨b, f, hs.at_, fun n_4 wb hn4 Y hY => ?_⟩⟩
    refine app1 ho (block_lt hb) hn4 (by simp [arrBo_length]) (fun u hu => reL_one b f u hu) (by omega) (by omega) (fun p' c' w' ho' hk' _ => ?_)
    have hne : ∀ k, (Value.slice p rs.length c).ownBlock = some k → ¬ n1 = k := fun k hk e => by have := own_ge ho hk; omega
    have hb' : w'.heap[n1]? = some (.cells #[.string s, .slice p rs.length c] 90 (0, 0)) := hk'.blk hb (fun e => hne _ e rfl)
    refine ⟨cell_wr hb' (by simp), fun w2 hp => hY w2 ⟨p', c', ?_, ?_⟩ ((hpb.kp hk' (fun e => by have := own_ge ho e; omega)).kp hp.kp (fun e => by omega)) ?_⟩
    · rw [List.length_append]; exact hp.block hb'
    · rw [rows_snoc, List.length_append]
      have : ([Value.bool b] ++ arrBo f 128 0).toArray.toList = reL b f := rfl
      rw [this] at ho'
      exact owns_kp ho' hp.kp (fun k hk e => by have := own_ge ho' hk; omega)
    · have := hwa.size
      exact (hwa.fresh hk' (fun i hi e => by have := own_ge ho e; omega)).fresh hp.kp (fun i hi e => by omega)
  refine ⟨fun vs w' => ∃ (k f : Nat) (acc : List El) (rs : List RE), vs = [.int .i64 k] ∧ k ≤ s.size ∧ s.size - k ≤ f ∧ acc.length ≤ k ∧ compS s f k acc = compS s s.size 0 [] ∧ RelEs acc rs ∧ RSt w' n1 s rs ∧ PB w' n ∧ K0 w w',
    fun vs _ => (match vs with | .int _ x :: _ => s.size - x.toNat | _ => 0), ⟨0, s.size, [], [], rfl, by omega, by omega, by simp, rfl, ⟨rfl, fun j e r h _ => by simp at h⟩, st3, p1.kp k13 (fun h => h), k1.trans k13⟩, fun x w' ⟨k, f, acc, rs, hv, hk, hf, hacc, hS, hrel, hst, hpb, hw⟩ => ?_⟩
  have hv : x = (k : Int) := by simpa using hv
  subst hv
  have hrl : rs.length ≤ k := by rw [← hrel.len]; exact hacc
  refine bsp_intro (fun hlt => ?_) (fun hge => ?_)
  · have hlt : k < s.size := by simpa using hlt
    obtain ⟨f, rfl⟩ : ∃ g, f = g + 1 := ⟨f - 1, by omega⟩
    have e0 : (k : Int).toNat = k := by omega
    rw [e0]
    have hin : 0 ≤ (k : Int) ∧ (k : Int) < (s.size : Int) := by omega
    intro n2 w4 hn2
    have b4 : SetB w4 n2 false (fun _ => false) := setB_new (by kernel_rfl) hn2
    have g2 : w'.heap.size ≤ n2 := hn2.ge
    have k4 : K0 w' w4 := hn2.kp _
    refine ⟨fun vs wx => ∃ (b : Bool) (g : Nat → Bool) (el : El), vs = [.int .i64 (k : Int)] ∧ SetB wx n2 b g ∧ RelE el ⟨b, g⟩ ∧ compS s f (k + 1) (acc ++ [el]) = compS s s.size 0 [] ∧ K0 w' wx, ⟨hin, ?_⟩, fun x_1 wx ⟨b, g, el, hv, hs, hre, hcs, hkx⟩ => ?_⟩
    · refine bsp_intro (fun c1 => ⟨cell_wr b4 (by simp [reL]), fun w5 hp => ⟨true, fun _ => false, .star, rfl, b4.star hp, rel_star, ?_, k4.fresh hp.kp (fun i hi e => by omega)⟩⟩) (fun c1 => ⟨hin, bsp_intro (fun c2 => ?_) (fun c2 => ⟨hin, bsp_intro (fun c3 => ?_) (fun c3 => ⟨hin, bsp_intro (fun c4 => ?_) (fun c4 => ?_)⟩)⟩)⟩)
      · rw [← hS]
        have : (at8 s k == 63) = false := by
          have : at8 s k = 42 := by simpa using c1
          rw [this]; rfl
        simp [compS, hlt, this, c1]
      · refine ⟨fun vs wx => ∃ m : Nat, vs = [.int .i64 m] ∧ m ≤ 128 ∧ SetB wx n2 false (fun d => decide (d < m) && charB d) ∧ K0 w' wx, fun vs _ => (match vs with | .int _ x :: _ => 128 - x.toNat | _ => 0), ⟨0, rfl, by omega, b4.congr (fun d _ => by simp), k4⟩, ?_⟩
        rintro x wy ⟨m, hv, hm, hby, hky⟩
        have hv : x = (m : Int) := by simpa using hv
        subst hv
        refine bsp_intro (fun hlm => ?_) (fun hgm => ?_)
        · have hlm : m < 128 := by simp at hlm; omega
          have eu : IntKind.u8.wrap (m : Int) = (m : Int) := IntWalk.u8_in m ⟨by omega, by omega⟩
          rw [eu, Int.toNat_natCast]
          refine ⟨⟨by omega, by omega⟩, hby.wr hlm, fun wz hp => ⟨⟨m + 1, ?_, by omega, (hby.put hp).congr (fun d _ => ?_), hky.fresh hp.kp (fun i hi e => by omega)⟩, ?_⟩⟩
          · rw [wr64 (by omega) (by omega)]; rfl
          · show (if d = m then charB m else (decide (d < m) && charB d)) = (decide (d < m + 1) && charB d)
            by_cases e : d = m
            · subst e; simp
            · rw [if_neg e]
              have : decide (d < m) = decide (d < m + 1) := by rw [decide_eq_decide]; omega
              rw [this]
          · rw [wr64 (by omega) (by omega)]
            simp only
            omega
        · have hgm : ¬ m < 128 := by simp at hgm; omega
          refine ⟨false, _, .one, rfl, hby, rel_one _ (fun c hc => ?_), ?_, hky⟩
          · have : decide (c < m) = true := by simp; omega
            rw [this, Bool.true_and]
          · rw [← hS]
            simp [compS, hlt, c2]
      · have c3' : at8 s k = 91 := by simpa using c3
        refine ⟨(rclass_any s k w4 hlt c3' (by omega)).mono fun e w5 ⟨hk5, he⟩ => ?_⟩
        have hcs0 : compS s (f + 1) k acc = if clsN (s.extract k s.size) = 0 then .inr (k, 3) else compS s f (k + clsN (s.extract k s.size)) (acc ++ [.cls (clsS (s.extract k s.size))]) := by simp [compS, hlt, c1, c2, c3]
        have hxs : (s.extract k s.size).size = s.size - k := by rw [ByteArray.size_extract]; omega
        have hle := clsN_le (s.extract k s.size) (by omega)
        rcases he with ⟨h0, b, g, he⟩ | ⟨h0, g, he, hre⟩
        · refine ⟨b, g, _, he, fun n3 w6 hn3 => ?_⟩
          have b6 : SetB w6 n3 false (fun _ => false) := setB_new (by kernel_rfl) hn3
          refine ⟨b6.wrl, fun w7 hp7 => bsp_intro (fun _ => ?_) (fun h => absurd h (by decide))⟩
          have k7 : K0 w' w7 := ((k4.trans hk5).trans (hn3.kp _)).fresh hp7.kp (fun i hi e => by have := (k4.trans hk5).size; have := hn3.ge; omega)
          refine fail w7 k 3 (hpb.kp k7 (fun h => h)) (hw.trans k7) (fun w' hk => ⟨hk, ?_⟩)
          rw [hR, ← hS, hcs0, if_pos h0]
        · refine ⟨false, g, _, he, fun n3 w6 hn3 => ?_⟩
          have b6 : SetB w6 n3 false (fun _ => false) := setB_new (by kernel_rfl) hn3
          refine ⟨b6.wrl, fun w7 hp7 => bsp_intro (fun h => ?_) (fun _ => ?_)⟩
          · exfalso; simp at h; omega
          have k7 : K0 w' w7 := ((k4.trans hk5).trans (hn3.kp _)).fresh hp7.kp (fun i hi e => by have := (k4.trans hk5).size; have := hn3.ge; omega)
          have b7 : SetB w7 n3 false g := b6.full hp7
          rw [if_neg h0] at hcs0
          obtain ⟨p, n_3, c, q1, q2⟩ := app false g rs w7 (hst.kp k7) (hpb.kp k7 (fun h => h)) (hw.trans k7) (by omega)
          obtain ⟨x2, f2, q3, q4⟩ := q2 n3 b7
          refine ⟨p, n_3, c, q1, x2, f2, q3, fun n4 w8 hn4 => q4 n4 w8 hn4 _ (fun w9 r1 r2 r3 => ⟨⟨k + clsN (s.extract k s.size), f, _, _, rfl, by omega, by omega, ?_, hcs0.symm.trans hS, hrel.snoc hre, r1, r2, r3⟩, ?_⟩)⟩
          · simp; omega
          · simp only; omega
      · have hcb := charB_lt c4
        refine ⟨hin, ⟨hcb.1, hcb.2⟩, b4.wr (by omega), fun w5 hp => ⟨false, _, .lit (s.extract k (k + 1)), rfl, b4.put hp, rel_lit hlt c4 _ (fun c hc => ?_), ?_, k4.fresh hp.kp (fun i hi e => by omega)⟩⟩
        · show (if c = (at8 s k).toNat then true else false) = decide ((c : Int) = at8 s k)
          by_cases e : c = (at8 s k).toNat
          · rw [if_pos e]; simp; omega
          · rw [if_neg e]; simp; omega
        · rw [← hS]
          have : hasB nameBytes (at8 s k) = true := by rw [name_char _ hcb.1 (by omega)]; exact c4
          simp [compS, hlt, c1, c2, c3, this]
      · refine fail w4 k 6 (hpb.kp k4 (fun h => h)) (hw.trans k4) (fun w' hk => ⟨hk, ?_⟩)
        rw [hR, ← hS]
        have : hasB nameBytes (at8 s k) = false := by rw [name_char _ (at8_bd s k).1 (at8_bd s k).2]; exact c4
        simp only [compS, hlt, if_true, c1, c2, c3, this, Bool.false_eq_true, if_false]
    · have hv : x_1 = (k : Int) := by simpa using hv
      subst hv
      rw [wr64 (by omega) (by omega)]
      obtain ⟨p, n_3, c, q1, q2⟩ := app b g rs wx (hst.kp hkx) (hpb.kp hkx (fun h => h)) (hw.trans hkx) (by omega)
      obtain ⟨x2, f2, q3, q4⟩ := q2 n2 hs
      refine ⟨p, n_3, c, q1, x2, f2, q3, fun n4 w8 hn4 => q4 n4 w8 hn4 _ (fun w9 r1 r2 r3 => ⟨⟨k + 1, f, _, _, rfl, by omega, by omega, ?_, hcs, hrel.snoc hre, r1, r2, r3⟩, ?_⟩)⟩
      · simp; omega
      · simp only; omega
  · have hge : ¬ k < s.size := by simpa using hge
    have hc : compS s f k acc = .inl acc := by cases f <;> simp [compS, hge]
    obtain ⟨p, c, hb, ho⟩ := hst
    refine ⟨_, _, _, _, AtL_block hb rfl, hpb.wr, fun wy hp => ⟨_, _, _, _, AtL_block (hpb.put hp) rfl, hw.fresh hp.kp (fun i hi e => by omega), ?_⟩⟩
    rw [hR, ← hS, hc]
    refine ⟨p, c, rs, rfl, ?_, hrel⟩
    have ho' := owns_kp ho hp.kp (fun k hk e => by have := own_ge ho hk; omega)
    exact ⟨ho'.1, ho'.2.imp id fun ⟨g, cap, cur, a1, a2, a3⟩ => ⟨g, cap, cur, a1, by omega, a3⟩⟩

end Go.Proofs.YtmjanmffnblcoaaGreatDoor

/- The formulas of functions by the symbolic evaluator, and that each gives the call's contract. Written by a program (gen.py). No condition. -/
namespace Go.Proofs.YtmjanmffnblcoaaGreatDoor
set_option maxRecDepth 100000
set_option linter.unusedVariables false

def VC_xrule (s : ByteArray) (lo : Int) (hi : Int) (w : World) (R : Ending → World → Prop) : Prop :=
 ∀ (n : Nat) (W : World),
 Loc w.heap.size [Blk.mk n 33 [Value.string s, Value.int IntKind.i64 lo, Value.int IntKind.i64 hi] 2] w W →
 CallsS Tryz.prog 34 #[Value.string s] W fun (e : Ending) (w' : World) =>
 ∃ (x : ByteArray),
 ∃ (p : Option Addr),
 ∃ (n_1 : Nat),
 ∃ (c : Nat),
 ∃ (x_1 : Int),
 ∃ (x_2 : Int),
 e =
 Ending.returned
 (Value.tuple
 #[Value.agg #[Value.string x, Value.slice p n_1 c], Value.int IntKind.i64 x_1,
 Value.int IntKind.i64 x_2]) ∧
 KeptL [n] W w' ∧
 ∀ (n_2 : Nat),
 bsp (x_2 != 0)
 (∀ (W : World),
 Loc w.heap.size
 [Blk.mk n_2 90 [Value.string x, Value.slice p n_1 c] (wrM 2),
 Blk.mk n 33 [Value.string s, Value.int IntKind.i64 lo, Value.int IntKind.i64 hi] 0]
 w' W →
 R (Ending.returned (Value.int IntKind.i64 3)) W)
 (∃ (x_3 : Int),
 gimp (!decide (lo < 0))
 (∀ (W : World),
 Loc w.heap.size
 [Blk.mk n_2 90 [Value.string x, Value.slice p n_1 c] (wrM 2),
 Blk.mk n 33 [Value.string s, Value.int IntKind.i64 lo, Value.int IntKind.i64 hi] 0]
 w' W →
 W.cell? (Addr.mk n (0 + 1) none) = some (Value.int IntKind.i64 x_3)) ∧
 ∃ (x_4 : Int),
 gimp (!decide (lo < 0))
 (∀ (W : World),
 Loc w.heap.size
 [Blk.mk n_2 90 [Value.string x, Value.slice p n_1 c] (wrM 2),
 Blk.mk n 33 [Value.string s, Value.int IntKind.i64 lo, Value.int IntKind.i64 hi] 0]
 w' W →
 W.cell? (Addr.mk n (0 + 2) none) = some (Value.int IntKind.i64 x_4)) ∧
 ∃ (x_5 : Int),
 gimp (!(decide (lo < 0) || decide (x_3 > x_4)))
 (∀ (W : World),
 Loc w.heap.size
 [Blk.mk n_2 90 [Value.string x, Value.slice p n_1 c] (wrM 2),
 Blk.mk n 33 [Value.string s, Value.int IntKind.i64 lo, Value.int IntKind.i64 hi] 0]
 w' W →
 W.cell? (Addr.mk n (0 + 2) none) = some (Value.int IntKind.i64 x_5)) ∧
 bsp (decide (lo < 0) || decide (x_3 > x_4) || decide (x_5 > 36500))
 (∀ (W : World),
 Loc w.heap.size
 [Blk.mk n_2 90 [Value.string x, Value.slice p n_1 c] (wrM 2),
 Blk.mk n 33 [Value.string s, Value.int IntKind.i64 lo, Value.int IntKind.i64 hi] 0]
 w' W →
 R (Ending.returned (Value.int IntKind.i64 2)) W)
 (∀ (W : World),
 Loc w.heap.size
 [Blk.mk n_2 90 [Value.string x, Value.slice p n_1 c] (wrM 2),
 Blk.mk n 33 [Value.string s, Value.int IntKind.i64 lo, Value.int IntKind.i64 hi] 0]
 w' W →
 R (Ending.returned (Value.int IntKind.i64 0)) W))
theorem vc_xrule (s : ByteArray) (lo : Int) (hi : Int) (w : World) (R : Ending → World → Prop) (h : VC_xrule s lo hi w R) : Calls Tryz.prog 18 ([Value.agg
    #[Value.string s, Value.int IntKind.i64 lo, Value.int IntKind.i64 hi]] : List Value).toArray w R := by
  have e : execR2 { P := Tryz.prog, loops := [], pur := pur2, tails := [], joins := [], boxes := [] } Tryz.f18.results.toList R (Tryz.f18.body.getD .skip) (initF [Value.agg
    #[Value.string s, Value.int IntKind.i64 lo,
      Value.int IntKind.i64
        hi]] (Tryz.f18.ntmps - ([Value.agg
    #[Value.string s, Value.int IntKind.i64 lo,
      Value.int IntKind.i64 hi]] : List Value).length)) w = VC_xrule s lo hi w R := by kernel_rfl
  have hb : Tryz.f18.body = some (Tryz.f18.body.getD .skip) := by kernel_rfl
  exact calls_of_exec2' (P := Tryz.prog) (fn := Tryz.f18) (c := Tryz.f18.body.getD .skip) (args := [Value.agg
    #[Value.string s, Value.int IntKind.i64 lo, Value.int IntKind.i64 hi]]) (w := w) (R := R) pur2_ok Tryz.func18 hb e h

def VC_xcheck (p : Option Addr) (n : Nat) (c : Nat) (w : World) (R : Ending → World → Prop) : Prop :=
 bsp (decide ((↑n : Int) > 64)) (R (Ending.returned (Value.int IntKind.i64 9)) w)
 (∃ (I : List Value → World → Prop),
 ∃ (m : List Value → World → Nat),
 I [Value.int IntKind.i64 0] w ∧
 ∀ (x : Int) (w' : World),
 I [Value.int IntKind.i64 x] w' →
 bsp (decide (x < (↑n : Int)))
 (nn true p fun (b o : Nat) =>
 (0 ≤ x ∧ x < (↑n : Int)) ∧
 ∃ (x_1 : ByteArray),
 ∃ (x_2 : Int),
 ∃ (x_3 : Int),
 AtL w' b (o + x.toNat * 3) [Value.string x_1, Value.int IntKind.i64 x_2, Value.int IntKind.i64 x_3] ∧
 CallsS Tryz.prog 18 #[Value.agg #[Value.string x_1, Value.int IntKind.i64 x_2, Value.int IntKind.i64 x_3]]
 w' fun (e : Ending) (w'_1 : World) =>
 ∃ (x_4 : Int),
 e = Ending.returned (Value.int IntKind.i64 x_4) ∧
 KeptL [] w' w'_1 ∧
 bsp (x_4 != 0) (R (Ending.returned (Value.int IntKind.i64 x_4)) w'_1)
 (I [Value.int IntKind.i64 (IntKind.i64.wrap (x + 1))] w'_1 ∧
 m [Value.int IntKind.i64 (IntKind.i64.wrap (x + 1))] w'_1 < m [Value.int IntKind.i64 x] w'))
 (R (Ending.returned (Value.int IntKind.i64 0)) w'))
theorem vc_xcheck (p : Option Addr) (n : Nat) (c : Nat) (w : World) (R : Ending → World → Prop) (h : VC_xcheck p n c w R) : Calls Tryz.prog 23 ([Value.slice
    p n c] : List Value).toArray w R := by
  have e : execR2 { P := Tryz.prog, loops := [(4, [(3, Ck.int IntKind.i64)])], pur := pur2, tails := [], joins := [], boxes := [] } Tryz.f23.results.toList R (Tryz.f23.body.getD .skip) (initF [Value.slice
    p n c] (Tryz.f23.ntmps - ([Value.slice p n c] : List Value).length)) w = VC_xcheck p n c w R := by kernel_rfl
  have hb : Tryz.f23.body = some (Tryz.f23.body.getD .skip) := by kernel_rfl
  exact calls_of_exec2' (P := Tryz.prog) (fn := Tryz.f23) (c := Tryz.f23.body.getD .skip) (args := [Value.slice p n
    c]) (w := w) (R := R) pur2_ok Tryz.func23 hb e h

end Go.Proofs.YtmjanmffnblcoaaGreatDoor

/- Chapter 42, the reference: the contracts of rule, Check, Days, less, older, find, Protected, total, goes, Wrong. No condition but sizes. -/
namespace Go.Proofs.YtmjanmffnblcoaaGreatDoor
open Go.RowKit Go.Sort Go.Maps

theorem xrule_any (r : Rl) (w : World) : Calls Tryz.prog 18 #[.agg #[.string r.pat, .int .i64 r.lo, .int .i64 r.hi]] w fun e w' => e = .returned (.int .i64 (rl1 r)) ∧ K0 w w' := by
  refine vc_xrule r.pat r.lo r.hi w _ ?_
  intro n W hW
  have kW : K0 w W := hW.kk rfl
  refine ⟨(rcompile_any r.pat W).mono fun e w1 ⟨k1, he⟩ => ?_⟩
  cases hc : compileR r.pat with
  | inr oe =>
    obtain ⟨o', e'⟩ := oe
    rw [hc] at he
    have hne0 := (compileR_off _ _ _ hc).2
    have e1 : rl1 r = 3 := by unfold rl1; rw [hc]
    rw [e1]
    exact ⟨_, _, _, _, _, _, he, .of_k0 k1, fun n2 => bsp_intro (fun _ W2 hW2 => ⟨rfl, (kW.trans k1).trans (hW2.kk rfl)⟩) (fun h => by exfalso; simp at h; exact hne0 h)⟩
  | inl els =>
    rw [hc] at he
    obtain ⟨p, c, rs, he, _, _⟩ := he
    have e1 : rl1 r = if r.lo < 0 ∨ r.hi < r.lo ∨ 36500 < r.hi then 2 else 0 := by unfold rl1; rw [hc]
    refine ⟨_, _, _, _, _, _, he, .of_k0 k1, fun n2 => bsp_intro (fun h => by simp at h) (fun _ => ?_)⟩
    refine ⟨r.lo, gimp_intro fun _ W2 hW2 => cell_at (hW2.cells 1 rfl) rfl, r.hi, gimp_intro fun _ W2 hW2 => cell_at (hW2.cells 1 rfl) rfl, r.hi, gimp_intro fun _ W2 hW2 => cell_at (hW2.cells 1 rfl) rfl, bsp_intro (fun h W2 hW2 => ⟨?_, (kW.trans k1).trans (hW2.kk rfl)⟩) (fun h W2 hW2 => ⟨?_, (kW.trans k1).trans (hW2.kk rfl)⟩)⟩
    · rw [e1, if_pos]; simp at h; omega
    · rw [e1, if_neg]; simp at h; omega
theorem xcheck_any (L : List Rl) (p : Option Addr) (c : Nat) (w : World) (hR : RowA rlC 3 w p L) :
    Calls Tryz.prog 23 #[.slice p L.length c] w fun e w' => e = .returned (.int .i64 (chkR L)) ∧ K0 w w' := by
  refine vc_xcheck p L.length c w _ ?_
  refine bsp_intro (fun h => ?_) (fun h => ?_)
  · have h : 64 < L.length := by simp at h; omega
    exact ⟨by unfold chkR; rw [if_pos h], .refl _ _⟩
  have h : L.length ≤ 64 := by simp at h; omega
  have eC : chkR L = rlF L := by unfold chkR; rw [if_neg (by omega)]
  rw [eC]
  refine ⟨fun vs w' => ∃ i : Nat, vs = [.int .i64 (i : Int)] ∧ i ≤ L.length ∧ rlF (L.take i) = 0 ∧ K0 w w', fun vs _ => (match vs with | .int _ x :: _ => L.length - x.toNat | _ => 0), ⟨0, rfl, by omega, rfl, .refl _ _⟩, ?_⟩
  rintro x w1 ⟨i, hv, hi, hok, k1⟩
  simp only [List.cons.injEq, Value.int.injEq, true_and, and_true] at hv
  subst hv
  refine bsp_intro (fun hlt => ?_) (fun hge => ?_)
  · have hlt : i < L.length := by simp at hlt; omega
    obtain ⟨r, b, o, hr, rfl, hat⟩ := (hR.k0 k1).get hlt
    show (0 ≤ (i : Int) ∧ (i : Int) < (L.length : Int)) ∧ _
    rw [Int.toNat_natCast]
    refine ⟨by omega, r.pat, r.lo, r.hi, hat, ⟨(xrule_any r w1).mono fun e w2 ⟨he, k2⟩ => ⟨_, he, .of_k0 k2, bsp_intro (fun hne => ?_) (fun hne => ?_)⟩⟩⟩
    · have hne : rl1 r ≠ 0 := by simpa using hne
      exact ⟨by rw [rlF_hit hok hr hne], k1.trans k2⟩
    · have hne : rl1 r = 0 := by simpa using hne
      exact ⟨⟨i + 1, by rw [inc64 (by omega)], hlt, rlF_next hok hr hne, k1.trans k2⟩, by rw [inc64 (by omega)]; simp only [Int.toNat_natCast]; omega⟩
  · have hi : i = L.length := by simp at hge; omega
    rw [hi, List.take_length] at hok
    exact ⟨by rw [hok], k1⟩
theorem rl1_ok : ∀ {L : List Rl}, rlF L = 0 → ∀ r ∈ L, ∃ els, compileR r.pat = .inl els
  | [], _, r, h => by cases h
  | x :: L, h, r, hr => by
    have e : rlF (x :: L) = if rl1 x ≠ 0 then rl1 x else rlF L := rfl
    rw [e] at h
    split at h
    · rename_i h1; exact absurd h h1
    · rename_i h1
      have h1 : rl1 x = 0 := by omega
      rcases List.mem_cons.1 hr with he | he
      · subst he
        unfold rl1 at h1
        split at h1
        · cases h1
        · rename_i els hc; exact ⟨els, hc⟩
      · exact rl1_ok h r he
theorem chkR_rlF {L : List Rl} (h : chkR L = 0) : rlF L = 0 := by
  unfold chkR at h
  split at h
  · cases h
  · exact h

end Go.Proofs.YtmjanmffnblcoaaGreatDoor

/- Chapter 42: the contract of the reference's Parse; the statement's comparison. Texts have at most 2^30 bytes. -/
namespace Go.Proofs.YtmjanmffnblcoaaGreatDoor
open Go.RowKit

theorem extx (s : ByteArray) (a b i j : Nat) (h : a + j ≤ b) : (s.extract a b).extract i j = s.extract (a + i) (a + j) := by
  rw [ByteArray.extract_extract]
  congr 1
  omega
theorem FirstC.ext {c : UInt8} {s : ByteArray} {a i : Nat} (h : FirstC c s a i) {b : Nat} (hb : b ≤ s.size) (hi : i < b ∨ i = b) : FirstC c (s.extract a b) 0 (i - a) := by
  obtain ⟨h1, h2, h3, h4⟩ := h
  have hz : (s.extract a b).size = b - a := by rw [ByteArray.size_extract]; omega
  refine ⟨by omega, by omega, fun j _ hj => ?_, fun hlt => ?_⟩
  · rw [at8_extract s a b j (by omega) hb]; exact h3 _ (by omega) (by omega)
  · rw [at8_extract s a b (i - a) (by omega) hb, show a + (i - a) = i by omega]; exact h4 (by omega)
theorem parts_step {s : ByteArray} {fr at_ en : Nat} {ws : List ByteArray} (h2 : at_ ≤ en) (h3 : en < s.size) (hsp : at8 s en = 32) (hno : ∀ j, at_ ≤ j → j < en → at8 s j ≠ 32)
    (hp : ∀ i, en ≤ i → i ≤ s.size → partsC 32 (s.extract fr i) = ws ++ partsC 32 (s.extract at_ i)) : ∀ i, en + 1 ≤ i → i ≤ s.size → partsC 32 (s.extract fr i) = (ws ++ [s.extract at_ en]) ++ partsC 32 (s.extract (en + 1) i) := fun i h4 h5 => by
  have hf : FirstC 32 s at_ en := ⟨h2, by omega, fun j a b => hno j a b, fun _ => hsp⟩
  have hz : (s.extract at_ i).size = i - at_ := by rw [ByteArray.size_extract]; omega
  have := partsC_hit (hf.ext (b := i) h5 (by omega)) (by omega)
  rw [hp i (by omega) h5, this, extx s at_ i 0 (en - at_) (by omega), hz, extx s at_ i (en - at_ + 1) (i - at_) (by omega)]
  rw [show at_ + 0 = at_ by omega, show at_ + (en - at_) = en by omega, show at_ + (en - at_ + 1) = en + 1 by omega, show at_ + (i - at_) = i by omega]
  simp
theorem parts_end {s : ByteArray} {fr at_ en : Nat} {ws : List ByteArray} (h2 : at_ ≤ en) (h3 : en ≤ s.size) (hno : ∀ j, at_ ≤ j → j < en → at8 s j ≠ 32)
    (hp : ∀ i, en ≤ i → i ≤ s.size → partsC 32 (s.extract fr i) = ws ++ partsC 32 (s.extract at_ i)) : partsC 32 (s.extract fr en) = ws ++ [s.extract at_ en] := by
  have hz : (s.extract at_ en).size = en - at_ := by rw [ByteArray.size_extract]; omega
  have hf : FirstC 32 (s.extract at_ en) 0 (en - at_) := ⟨by omega, by omega, fun j _ hj => by rw [at8_extract s at_ en j (by omega) h3]; exact hno _ (by omega) (by omega), fun h => by omega⟩
  rw [hp en (Nat.le_refl _) h3, partsC_miss hf (by omega)]
def lineW : List ByteArray → Rl ⊕ Int
  | [a, b, c] => if (numR b 999999).2 ≠ 0 then .inr 3 else if (numR c 999999).2 ≠ 0 then .inr 3 else if rl1 ⟨a, (numR b 999999).1, (numR c 999999).1⟩ ≠ 0 then .inr (rl1 ⟨a, (numR b 999999).1, (numR c 999999).1⟩) else .inl ⟨a, (numR b 999999).1, (numR c 999999).1⟩
  | _ => .inr 3
theorem line1_eq (t : ByteArray) : line1 t = lineW (partsC 32 t) := rfl
theorem lineW_not3 {ws : List ByteArray} (h : ws.length ≠ 3) : lineW ws = .inr 3 := by
  match ws, h with
  | [], _ => rfl
  | [_], _ => rfl
  | [_, _], _ => rfl
  | [_, _, _], h => exact absurd rfl h
  | _ :: _ :: _ :: _ :: _, _ => rfl
theorem lineW_nil {a b c : ByteArray} (h : a.size = 0) : lineW [a, b, c] = .inr 3 := by
  have hr : ∀ lo hi, rl1 ⟨a, lo, hi⟩ = 3 := fun lo hi => by unfold rl1 compileR; rw [if_pos h]
  unfold lineW
  simp only [hr]
  split
  · rfl
  · split <;> rfl
theorem lineW_b {a b c : ByteArray} (h : rnumR b < 0) : lineW [a, b, c] = .inr 3 := by
  rcases num_ref b with ⟨_, h2⟩ | ⟨h2, _⟩
  · unfold lineW; simp only; rw [if_pos h2]
  · omega
theorem lineW_c {a b c : ByteArray} (h : rnumR c < 0) : lineW [a, b, c] = .inr 3 := by
  rcases num_ref c with ⟨_, h2⟩ | ⟨h2, _⟩
  · unfold lineW; simp only
    by_cases hb : (numR b 999999).2 ≠ 0
    · rw [if_pos hb]
    · rw [if_neg hb, if_pos h2]
  · omega
theorem lineW_ok {a b c : ByteArray} (hb : ¬ rnumR b < 0) (hc : ¬ rnumR c < 0) : lineW [a, b, c] = if rl1 ⟨a, rnumR b, rnumR c⟩ ≠ 0 then .inr (rl1 ⟨a, rnumR b, rnumR c⟩) else .inl ⟨a, rnumR b, rnumR c⟩ := by
  rcases num_ref b with ⟨h1, _⟩ | ⟨_, e1⟩
  · omega
  rcases num_ref c with ⟨h1, _⟩ | ⟨_, e2⟩
  · omega
  unfold lineW
  simp only [e1, e2]
  rw [if_neg (by decide), if_neg (by decide)]
theorem pack {T : Prop} {W w6 : World} {n3 : Nat} {X : Obj} (k : K0 W w6) (hb : w6.heap[n3]? = some X) (g : W.heap.size ≤ n3) (h : K0 W w6 → w6.heap[n3]? = some X → W.heap.size ≤ n3 → T) : T := h k hb g

set_option maxHeartbeats 2000000 in
theorem rparse_any (s : ByteArray) (w : World) (hs : s.size ≤ 1073741824) :
    Calls Tryz.prog 7 #[.string s] w fun e w' => (∃ (p : Option Addr) (c : Nat), e = .returned (.tuple #[.slice p (parseR s).1.length c, .int .i64 (parseR s).2.1, .int .i64 (parseR s).2.2]) ∧ w'.ownsRow w.heap.size 33 3 (.slice p (parseR s).1.length c) (parseR s).1.length ((parseR s).1.flatMap rlC)) ∧ K0 w w' := by
  refine vc_rparse s w _ ?_
  unfold parseR
  generalize hR : parseL (s.size + 1) s 1 [] = G
  refine ⟨fun vs w' => ∃ (line f : Nat) (acc : List Rl) (p : Option Addr) (c fr : Nat), vs = [.int .i64 (line : Int), .slice p acc.length c, .int .i64 (fr : Int)] ∧ fr ≤ s.size ∧ s.size - fr < f ∧ line + (s.size - fr) ≤ s.size + 1 ∧ parseL f (s.extract fr s.size) line acc = G ∧ w'.ownsRow w.heap.size 33 3 (.slice p acc.length c) acc.length (acc.flatMap rlC) ∧ acc.length ≤ 64 ∧ K0 w w',
    fun vs _ => (match vs with | [_, _, .int _ x] => s.size - x.toNat | _ => 0), ⟨1, s.size + 1, [], none, 0, 0, rfl, by omega, by omega, by omega, by rw [show s.extract 0 s.size = s from ByteArray.extract_zero_size]; exact hR, World.ownsRow_nil _ _ _ _, by simp, .refl _ _⟩, ?_⟩
  rintro x p n c y w1 ⟨line, f, acc, p', c', fr, hv, hfr, hf, hl, hE, ho, h64, k1⟩
  simp only [List.cons.injEq, Value.int.injEq, Value.slice.injEq, true_and, and_true] at hv
  obtain ⟨rfl, ⟨rfl, rfl, rfl⟩, rfl⟩ := hv
  obtain ⟨f, rfl⟩ : ∃ g, f = g + 1 := ⟨f - 1, by omega⟩
  have hxs : (s.extract fr s.size).size = s.size - fr := by rw [ByteArray.size_extract]; omega
  rw [parseL_succ, hxs] at hE
  have fail : ∀ (x : Int) (w2 : World), K0 w w2 → G = ([], (line : Int), x) → (∃ (p : Option Addr) (c : Nat), Ending.returned (.tuple #[.slice none 0 0, .int .i64 line, .int .i64 x]) = .returned (.tuple #[.slice p G.1.length c, .int .i64 G.2.1, .int .i64 G.2.2]) ∧ w2.ownsRow w.heap.size 33 3 (.slice p G.1.length c) G.1.length (G.1.flatMap rlC)) ∧ K0 w w2 := fun x w2 k2 hg => by
    subst hg
    exact ⟨⟨none, 0, rfl, World.ownsRow_nil _ _ _ _⟩, k2⟩
  refine bsp_intro (fun h0 => ?_) (fun h0 => ?_)
  · have h0 : fr < s.size := by simp at h0; omega
    rw [if_neg (by omega)] at hE
    refine ⟨fun vs w' => ∃ (en at_ : Nat) (ws : List ByteArray) (p1 : Option Addr) (c1 : Nat), vs = [.int .i64 (en : Int), .int .i64 (at_ : Int), .slice p1 ws.length c1] ∧ fr ≤ at_ ∧ at_ ≤ en ∧ en ≤ s.size ∧ (∀ j, fr ≤ j → j < en → at8 s j ≠ 10) ∧ (∀ j, at_ ≤ j → j < en → at8 s j ≠ 32) ∧
        (∀ i, en ≤ i → i ≤ s.size → partsC 32 (s.extract fr i) = ws ++ partsC 32 (s.extract at_ i)) ∧ w'.ownsRow w1.heap.size 9 1 (.slice p1 ws.length c1) ws.length (ws.map .string) ∧ ws.length ≤ en ∧ K0 w1 w',
      fun vs _ => (match vs with | .int _ x :: _ => s.size - x.toNat | _ => 0), ⟨fr, fr, [], none, 0, rfl, by omega, by omega, by omega, (fun j a b => by omega), (fun j a b => by omega), (fun i a b => rfl), World.ownsRow_nil _ _ _ _, by simp, .refl _ _⟩, ?_⟩
    rintro x2 x3 p1 n1 c1 w2 ⟨en, at_, ws, p1', c1', hv, ha1, ha2, hen, hnl, hsp, hps, how, hwl, k2⟩
    simp only [List.cons.injEq, Value.int.injEq, Value.slice.injEq, true_and, and_true] at hv
    obtain ⟨rfl, rfl, ⟨rfl, rfl, rfl⟩⟩ := hv
    rw [Int.toNat_natCast, Int.toNat_natCast]
    have kw2 := k1.trans k2
    refine ⟨gimp_intro fun h => ⟨by omega, by simpa using h⟩, bsp_intro (fun hc => ?_) (fun hc => ?_)⟩
    · have hc : en < s.size ∧ at8 s en ≠ 10 := by
        simp only [Bool.and_eq_true, decide_eq_true_eq, bne_iff_ne] at hc
        exact ⟨by omega, hc.2⟩
      have hnl' : ∀ j, fr ≤ j → j < en + 1 → at8 s j ≠ 10 := fun j a b => by
        by_cases e : j = en
        · rw [e]; exact hc.2
        · exact hnl j a (by omega)
      refine ⟨⟨by omega, by omega⟩, bsp_intro (fun h32 => ⟨⟨by omega, by omega, by omega⟩, fun n9 W hW => ?_⟩) (fun h32 => ⟨⟨en + 1, at_, ws, p1, c1, by rw [inc64 (by omega)], ha1, by omega, by omega, hnl', fun j a b => ?_, fun i a b => hps i (by omega) b, how, by omega, k2⟩, by rw [inc64 (by omega)]; simp only [Int.toNat_natCast]; omega⟩)⟩
      · have h32 : at8 s en = 32 := by simpa using h32
        have k3 : K0 w2 W := hW.kk rfl
        have ho3 := owns_kp how k3 (fun _ _ h => h)
        refine ⟨_, _, ho3, by omega, by omega, Nat.le_trans k2.size k3.size, fun p4 c4 w4 ho4 hg4 _ => ?_⟩
        have hk4 := kp_grown hg4
        have kk : K0 w1 w4 := (k2.trans k3).fresh hk4 (fun j hj e => by have := own_ge ho3 e; omega)
        refine ⟨.of_kp hk4 (fun z hz => by cases hz), ⟨en + 1, en + 1, ws ++ [s.extract at_ en], p4, c4, ?_, by omega, by omega, by omega, hnl', (fun j a b => by omega), parts_step ha2 hc.1 h32 hsp hps, ?_, by simp; omega, kk⟩, by rw [inc64 (by omega)]; simp only [Int.toNat_natCast]; omega⟩
        · rw [inc64 (by omega), List.length_append]; rfl
        · rw [List.length_append, List.map_append]; exact ho4
      · have h32 : at8 s en ≠ 32 := by simpa using h32
        by_cases e : j = en
        · rw [e]; exact h32
        · exact hsp j a (by omega)
    -- the line ends
    have hc : en = s.size ∨ (en < s.size ∧ at8 s en = 10) := by
      simp only [Bool.and_eq_false_iff, decide_eq_false_iff_not, bne_eq_false_iff_eq] at hc
      by_cases h : en < s.size
      · exact .inr ⟨h, by rcases hc with h' | h'; omega; exact h'⟩
      · exact .inl (by omega)
    have hfc : FirstC 10 (s.extract fr s.size) 0 (en - fr) := by
      have : FirstC 10 s fr en := ⟨by omega, hen, hnl, fun h => by rcases hc with h' | h'; omega; exact h'.2⟩
      exact this.ext (Nat.le_refl _) (by omega)
    have efind : findC 10 (s.extract fr s.size) = en - fr := (findC_first 10 _).uniq hfc
    rw [efind] at hE
    refine ⟨⟨by omega, by omega, by omega⟩, fun n9 W hW => ?_⟩
    have k3 : K0 w2 W := hW.kk rfl
    have ho3 := owns_kp how k3 (fun _ _ h => h)
    refine ⟨_, _, ho3, by omega, by omega, Nat.le_trans k2.size k3.size, fun p4 c4 w4 ho4 hg4 _ => ?_⟩
    have hk4 := kp_grown hg4
    have k14 : K0 w1 w4 := (k2.trans k3).fresh hk4 (fun j hj e => by have := own_ge ho3 e; omega)
    have kw4 := k1.trans k14
    refine ⟨.of_kp hk4 (fun z hz => by cases hz), bsp_intro (fun h => ?_) (fun h => bsp_intro (fun hn => ?_) (fun hn => ?_))⟩
    · have h : en = s.size := by simp at h; omega
      rw [if_pos (by omega)] at hE
      exact fail 4 w4 kw4 hE.symm
    · have h : en ≠ s.size := by simp at h; omega
      rw [if_neg (by omega), if_pos (by simp at hn; omega)] at hE
      exact fail 9 w4 kw4 hE.symm
    have h : en < s.size := by simp at h; omega
    have hn : acc.length < 64 := by simp at hn; omega
    rw [if_neg (by omega), if_neg (by omega), line1_eq, extx s fr s.size 0 (en - fr) (by omega), show fr + 0 = fr by omega, show fr + (en - fr) = en by omega, parts_end ha2 hen hsp hps,
      extx s fr s.size (en - fr + 1) (s.size - fr) (by omega), show fr + (en - fr + 1) = en + 1 by omega, show fr + (s.size - fr) = s.size by omega] at hE
    have hsz : ∀ x ∈ ws ++ [s.extract at_ en], x.size ≤ s.size := by
      rw [← parts_end ha2 hen hsp hps]
      intro x hx
      have := partsC_le _ _ hx
      rw [ByteArray.size_extract] at this
      omega
    have ho5 : w4.ownsRow w1.heap.size 9 1 (.slice p4 (ws.length + 1) c4) (ws.length + 1) ((ws ++ [s.extract at_ en]).map .string) := by rw [List.map_append]; exact ho4
    have hln : ws.length + 1 = (ws ++ [s.extract at_ en]).length := by simp
    generalize ws ++ [s.extract at_ en] = us at *
    by_cases h3 : us.length = 3
    · have hg : (((ws.length + 1 : Nat) : Int) != 3) = false := by simp; omega
      obtain ⟨a, b, d, rfl⟩ : ∃ a b d, us = [a, b, d] := by
        match us, h3 with
        | [a, b, d], _ => exact ⟨a, b, d, rfl⟩
      obtain ⟨gb, hp4, ca⟩ := own_cellL ho5 (i := 0) (v := .string a) rfl
      obtain ⟨gb1, hp4', cb⟩ := own_cellL ho5 (i := 1) (v := .string b) rfl
      obtain ⟨gb2, hp4'', cd⟩ := own_cellL ho5 (i := 2) (v := .string d) rfl
      rw [hp4] at hp4' hp4''
      simp only [Option.some.injEq, Addr.mk.injEq, and_true] at hp4' hp4''
      subst hp4' hp4''
      have hw2 : ws.length = 2 := by simp at hln; omega
      have hbz : b.size ≤ 4294967296 := by have := hsz b (by simp); omega
      have hdz : d.size ≤ 4294967296 := by have := hsz d (by simp); omega
      refine nn_is hp4 ⟨gimp_intro fun _ => ⟨by omega, by omega⟩, a, gimp_intro fun _ => ca, nn_is hp4 ⟨gimp_intro fun _ => ⟨by omega, by omega⟩, b, gimp_intro fun _ => cb, bsp_intro (fun ha => ?_) (fun ha => ?_)⟩⟩
      · have ha : a.size ≠ 0 := by rw [hg, toList_nil] at ha; simpa using ha
        refine ⟨(rnumber_any b w4 hbz).mono fun e w5a ⟨he, k5⟩ => ⟨_, he, .of_k0 k5, nn_is hp4 ⟨gimp_intro fun _ => ⟨by omega, by omega⟩, d, gimp_intro fun _ => k5.cell' cd (fun h => h), bsp_intro (fun hb => ?_) (fun hb => ?_)⟩⟩⟩
        · have hb : ¬ rnumR b < 0 := by simpa using hb
          refine ⟨(rnumber_any d w5a hdz).mono fun e w6a ⟨he, k6⟩ => ⟨_, he, .of_k0 k6, bsp_intro (fun hd => ?_) (fun hd => fun W2 hW2 => ?_)⟩⟩
          · have hd : rnumR d < 0 := by simpa using hd
            rw [lineW_c hd] at hE
            exact fail 3 w6a ((kw4.trans k5).trans k6) hE.symm
          have hd : ¬ rnumR d < 0 := by simpa using hd
          rw [lineW_ok hb hd] at hE
          have kA : K0 w4 W2 := (k5.trans k6).trans (hW2.kk rfl)
          have kwA : K0 w W2 := kw4.trans kA
          have k1A : K0 w1 W2 := k14.trans kA
          refine ⟨fun wx => K0 W2 wx, .refl _ _, nn_is hp4 ⟨⟨by omega, by omega⟩, a, fun wx k => (kA.trans k).cell' ca (fun h => h), nn_is hp4 ⟨⟨by omega, by omega⟩, b, fun wx k => (kA.trans k).cell' cb (fun h => h), nn_is hp4 ⟨⟨by omega, by omega⟩, d, fun wx k => (kA.trans k).cell' cd (fun h => h), ?_⟩⟩⟩⟩
          refine ⟨⟨(rnumber_any b W2 hbz).mono fun e1 w7 ⟨he7, k7⟩ => ⟨_, he7, k7, ⟨(rnumber_any d w7 hdz).mono fun e2 w8 ⟨he8, k8⟩ => ⟨_, he8, k7.trans k8, fun n3 w6 hn3 => ⟨(k7.trans k8).trans (hn3.kp _), pack ((k7.trans k8).trans (hn3.kp _)) hn3.block (Nat.le_trans (k7.trans k8).size hn3.ge) fun k9 hb9 g9 => ?_⟩⟩⟩, fun n3 w8 hn3 => ⟨k7.trans (hn3.kp _), ⟨(rnumber_any d w8 hdz).mono fun e2 w6 ⟨he8, k8⟩ => ⟨_, he8, (k7.trans (hn3.kp _)).trans k8, pack ((k7.trans (hn3.kp _)).trans k8) (k8.blk hn3.block (fun h => h)) (Nat.le_trans k7.size hn3.ge) fun k9 hb9 g9 => ?_⟩⟩⟩⟩⟩, fun n3 w7 hn3 => ⟨hn3.kp _, ⟨(rnumber_any b w7 hbz).mono fun e1 w8 ⟨he7, k7⟩ => ⟨_, he7, (hn3.kp _).trans k7, ⟨(rnumber_any d w8 hdz).mono fun e2 w6 ⟨he8, k8⟩ => ⟨_, he8, ((hn3.kp _).trans k7).trans k8, pack (((hn3.kp _).trans k7).trans k8) ((k7.trans k8).blk hn3.block (fun h => h)) hn3.ge fun k9 hb9 g9 => ?_⟩⟩⟩⟩⟩⟩
          all_goals
            refine ⟨WrL_block hb9 (Nat.le_refl 3), fun w10 hp => ⟨.of_k0 (put_k0 k9 hp g9), a, rnumR b, rnumR d, AtL_block (hp.full hb9 rfl) rfl, ⟨(xrule_any ⟨a, rnumR b, rnumR d⟩ w10).mono fun e w11 ⟨he, k11⟩ => ⟨_, he, .of_k0 k11, bsp_intro (fun hx => ?_) (fun hx => ?_)⟩⟩⟩⟩
            · have hx : rl1 ⟨a, rnumR b, rnumR d⟩ ≠ 0 := by simpa using hx
              rw [if_pos hx] at hE
              exact fail _ w11 ((kwA.trans (put_k0 k9 hp g9)).trans k11) hE.symm
            · have hx : ¬ rl1 ⟨a, rnumR b, rnumR d⟩ ≠ 0 := by simpa using hx
              rw [if_neg hx] at hE
              have hb11 := k11.blk (hp.full hb9 rfl) (fun h => h)
              refine ⟨a, rnumR b, rnumR d, AtL_block hb11 rfl, fun n12 W12 hW12 => ?_⟩
              have kB : K0 W2 W12 := ((put_k0 k9 hp g9).trans k11).trans (hW12.kk rfl)
              have k1B := k1A.trans kB
              have ho12 := owns_kp ho k1B (fun _ _ h => h)
              refine ⟨_, _, ho12, by omega, by omega, Nat.le_trans k1.size k1B.size, fun p13 c13 w13 ho13 hg13 _ => ?_⟩
              have hk13 := kp_grown hg13
              have kk : K0 w w13 := (k1.trans k1B).fresh hk13 (fun j hj e => by have := own_ge ho12 e; omega)
              refine ⟨.of_kp hk13 (fun z hz => by cases hz), ⟨line + 1, f, acc ++ [⟨a, rnumR b, rnumR d⟩], p13, c13, en + 1, ?_, by omega, by omega, by omega, hE, ?_, by simp; omega, kk⟩, ?_⟩
              · rw [inc64 (by omega), inc64 (by omega), List.length_append]; rfl
              · rw [List.length_append, List.flatMap_append]; simpa [rlC] using ho13
              · rw [inc64 (by omega), inc64 (by omega)]; simp only [Int.toNat_natCast]; omega
        · have hb : rnumR b < 0 := by simpa using hb
          rw [lineW_b hb] at hE
          exact ⟨.refl _ _, fail 3 w5a (kw4.trans k5) hE.symm⟩
      · have ha : a.size = 0 := by rw [hg, toList_nil] at ha; simpa using ha
        rw [lineW_nil ha] at hE
        exact ⟨.refl _ _, nn_off fun _ _ => ⟨trivial, ⟨#[]⟩, trivial, .refl _ _, fail 3 w4 kw4 hE.symm⟩⟩
    · have hg : (((ws.length + 1 : Nat) : Int) != 3) = true := by simp; omega
      rw [lineW_not3 h3] at hE
      simp only [hg, Bool.true_or, Bool.not_true]
      exact nn_off fun _ _ => ⟨gimp_intro (fun h => by cases h), ⟨#[]⟩, gimp_intro (fun h => by cases h), nn_off fun _ _ => ⟨gimp_intro (fun h => by cases h), ⟨#[]⟩, gimp_intro (fun h => by cases h), bsp_intro (fun h => by cases h) (fun _ => ⟨.refl _ _, nn_off fun _ _ => ⟨trivial, ⟨#[]⟩, trivial, .refl _ _, fail 3 w4 kw4 hE.symm⟩⟩)⟩⟩
  · have h0 : fr = s.size := by simp at h0; omega
    rw [if_pos (by omega)] at hE
    subst hE
    exact ⟨⟨p, c, rfl, ho⟩, k1⟩

end Go.Proofs.YtmjanmffnblcoaaGreatDoor

/- The formulas of functions by the symbolic evaluator, and that each gives the call's contract. Written by a program (gen.py). No condition. -/
namespace Go.Proofs.YtmjanmffnblcoaaGreatDoor
set_option maxRecDepth 100000
set_option linter.unusedVariables false

def VC_lknown (w : World) (R : Ending → World → Prop) : Prop :=
 ∀ (n n_1 : Nat) (W : World),
 Loc w.heap.size
 [Blk.mk n_1 9
 [Value.string (ByteArray.mk #[97, 108, 116, 46, 116, 101, 115, 116]),
 Value.string (ByteArray.mk #[114, 101, 99, 46, 98, 111, 97, 116, 115])]
 2,
 Blk.mk n 40
 [Value.string (ByteArray.mk #[42]), Value.int IntKind.i64 0, Value.int IntKind.i64 10,
 Value.string (ByteArray.mk #[114, 101, 99, 46, 42]), Value.int IntKind.i64 5, Value.int IntKind.i64 30]
 2]
 w W →
 ∀ (n_2 n_3 : Nat) (W_1 : World),
 Loc w.heap.size
 [Blk.mk n_3 46
 [Value.int IntKind.u8 1, Value.int IntKind.u8 0, Value.int IntKind.u8 0, Value.int IntKind.u8 0,
 Value.int IntKind.u8 0, Value.int IntKind.u8 0, Value.int IntKind.u8 0, Value.int IntKind.u8 0,
 Value.int IntKind.u8 0, Value.int IntKind.u8 0, Value.int IntKind.u8 0, Value.int IntKind.u8 0,
 Value.int IntKind.u8 0, Value.int IntKind.u8 0, Value.int IntKind.u8 0, Value.int IntKind.u8 0,
 Value.int IntKind.u8 0, Value.int IntKind.u8 0, Value.int IntKind.u8 0, Value.int IntKind.u8 0,
 Value.int IntKind.u8 0, Value.int IntKind.u8 0, Value.int IntKind.u8 0, Value.int IntKind.u8 0,
 Value.int IntKind.u8 0, Value.int IntKind.u8 0, Value.int IntKind.u8 0, Value.int IntKind.u8 0,
 Value.int IntKind.u8 0, Value.int IntKind.u8 0, Value.int IntKind.u8 0, Value.int IntKind.u8 0,
 Value.int IntKind.i64 0, Value.int IntKind.i64 0, Value.slice (some (Addr.mk n_1 0 none)) 2 2,
 Value.int IntKind.i64 7, Value.int IntKind.i64 0, Value.slice none 0 0, Value.bool false]
 2,
 Blk.mk n_2 46
 [Value.int IntKind.u8 1, Value.int IntKind.u8 0, Value.int IntKind.u8 0, Value.int IntKind.u8 0,
 Value.int IntKind.u8 0, Value.int IntKind.u8 0, Value.int IntKind.u8 0, Value.int IntKind.u8 0,
 Value.int IntKind.u8 0, Value.int IntKind.u8 0, Value.int IntKind.u8 0, Value.int IntKind.u8 0,
 Value.int IntKind.u8 0, Value.int IntKind.u8 0, Value.int IntKind.u8 0, Value.int IntKind.u8 0,
 Value.int IntKind.u8 0, Value.int IntKind.u8 0, Value.int IntKind.u8 0, Value.int IntKind.u8 0,
 Value.int IntKind.u8 0, Value.int IntKind.u8 0, Value.int IntKind.u8 0, Value.int IntKind.u8 0,
 Value.int IntKind.u8 0, Value.int IntKind.u8 0, Value.int IntKind.u8 0, Value.int IntKind.u8 0,
 Value.int IntKind.u8 0, Value.int IntKind.u8 0, Value.int IntKind.u8 0, Value.int IntKind.u8 0,
 Value.int IntKind.i64 0, Value.int IntKind.i64 0, Value.slice (some (Addr.mk n_1 0 none)) 2 2,
 Value.int IntKind.i64 7, Value.int IntKind.i64 0, Value.slice none 0 0, Value.bool false]
 (wrM 2),
 Blk.mk n 40
 [Value.string (ByteArray.mk #[42]), Value.int IntKind.i64 0, Value.int IntKind.i64 10,
 Value.string (ByteArray.mk #[114, 101, 99, 46, 42]), Value.int IntKind.i64 5, Value.int IntKind.i64 30]
 0]
 W W_1 →
 CallsS Tryz.prog 12
 #[Value.slice (some (Addr.mk n 0 none)) 2 2, Value.slice (some (Addr.mk n_3 0 none)) 1 1,
 Value.int IntKind.i64 43200, Value.int IntKind.i64 100]
 W_1 fun (e : Ending) (w' : World) =>
 ∃ (p : Option Addr),
 ∃ (n_4 : Nat),
 ∃ (c : Nat),
 ∃ (x : Int),
 e = Ending.returned (Value.tuple #[Value.slice p n_4 c, Value.int IntKind.i64 x]) ∧
 KeptL [n_2, n] W_1 w' ∧
 CallsS Tryz.prog 13
 #[Value.slice (some (Addr.mk n 0 none)) 2 2,
 Value.agg
 #[Value.int IntKind.u8 1, Value.int IntKind.u8 0, Value.int IntKind.u8 0, Value.int IntKind.u8 0,
 Value.int IntKind.u8 0, Value.int IntKind.u8 0, Value.int IntKind.u8 0, Value.int IntKind.u8 0,
 Value.int IntKind.u8 0, Value.int IntKind.u8 0, Value.int IntKind.u8 0, Value.int IntKind.u8 0,
 Value.int IntKind.u8 0, Value.int IntKind.u8 0, Value.int IntKind.u8 0, Value.int IntKind.u8 0,
 Value.int IntKind.u8 0, Value.int IntKind.u8 0, Value.int IntKind.u8 0, Value.int IntKind.u8 0,
 Value.int IntKind.u8 0, Value.int IntKind.u8 0, Value.int IntKind.u8 0, Value.int IntKind.u8 0,
 Value.int IntKind.u8 0, Value.int IntKind.u8 0, Value.int IntKind.u8 0, Value.int IntKind.u8 0,
 Value.int IntKind.u8 0, Value.int IntKind.u8 0, Value.int IntKind.u8 0, Value.int IntKind.u8 0,
 Value.int IntKind.i64 0, Value.int IntKind.i64 0, Value.slice (some (Addr.mk n_1 0 none)) 2 2,
 Value.int IntKind.i64 7, Value.int IntKind.i64 0, Value.slice none 0 0, Value.bool false]]
 w' fun (e : Ending) (w'_1 : World) =>
 ∃ (x_1 : Int),
 e = Ending.returned (Value.int IntKind.i64 x_1) ∧
 KeptL [n_2, n] w' w'_1 ∧
 bsp (x_1 == 5)
 (CallsS Tryz.prog 14
 #[Value.slice (some (Addr.mk n 0 none)) 2 2,
 Value.agg
 #[Value.int IntKind.u8 1, Value.int IntKind.u8 0, Value.int IntKind.u8 0, Value.int IntKind.u8 0,
 Value.int IntKind.u8 0, Value.int IntKind.u8 0, Value.int IntKind.u8 0, Value.int IntKind.u8 0,
 Value.int IntKind.u8 0, Value.int IntKind.u8 0, Value.int IntKind.u8 0, Value.int IntKind.u8 0,
 Value.int IntKind.u8 0, Value.int IntKind.u8 0, Value.int IntKind.u8 0, Value.int IntKind.u8 0,
 Value.int IntKind.u8 0, Value.int IntKind.u8 0, Value.int IntKind.u8 0, Value.int IntKind.u8 0,
 Value.int IntKind.u8 0, Value.int IntKind.u8 0, Value.int IntKind.u8 0, Value.int IntKind.u8 0,
 Value.int IntKind.u8 0, Value.int IntKind.u8 0, Value.int IntKind.u8 0, Value.int IntKind.u8 0,
 Value.int IntKind.u8 0, Value.int IntKind.u8 0, Value.int IntKind.u8 0, Value.int IntKind.u8 0,
 Value.int IntKind.i64 0, Value.int IntKind.i64 0, Value.slice (some (Addr.mk n_1 0 none)) 2 2,
 Value.int IntKind.i64 7, Value.int IntKind.i64 0, Value.slice none 0 0, Value.bool false]]
 w'_1 fun (e : Ending) (w' : World) =>
 ∃ (x_2 : Int),
 e = Ending.returned (Value.int IntKind.i64 x_2) ∧
 KeptL [n_2, n] w'_1 w' ∧
 nn (true && x_2 == 30 && x == 0 && (↑n_4 : Int) == 1) p fun (b o : Nat) =>
 gimp (true && x_2 == 30 && x == 0 && (↑n_4 : Int) == 1) ((0 : Int) ≤ 0 ∧ 0 < (↑n_4 : Int)) ∧
 ∃ (f : Nat → Int),
 ∃ (x_3 : Int),
 gimp (true && x_2 == 30 && x == 0 && (↑n_4 : Int) == 1)
 (AtL w' b o
 (arrI IntKind.u8 f 32 0 ++ [Value.int IntKind.i64 x_3])) ∧
 ∃ (r : Bool),
 gimp (true && x_2 == 30 && x == 0 && (↑n_4 : Int) == 1)
 (EqP Tryz.prog 53
 (Value.agg
 (arrI IntKind.u8 f 32 0 ++ [Value.int IntKind.i64 x_3]).toArray)
 (Value.agg
 #[Value.int IntKind.u8 1, Value.int IntKind.u8 0, Value.int IntKind.u8 0,
 Value.int IntKind.u8 0, Value.int IntKind.u8 0, Value.int IntKind.u8 0,
 Value.int IntKind.u8 0, Value.int IntKind.u8 0, Value.int IntKind.u8 0,
 Value.int IntKind.u8 0, Value.int IntKind.u8 0, Value.int IntKind.u8 0,
 Value.int IntKind.u8 0, Value.int IntKind.u8 0, Value.int IntKind.u8 0,
 Value.int IntKind.u8 0, Value.int IntKind.u8 0, Value.int IntKind.u8 0,
 Value.int IntKind.u8 0, Value.int IntKind.u8 0, Value.int IntKind.u8 0,
 Value.int IntKind.u8 0, Value.int IntKind.u8 0, Value.int IntKind.u8 0,
 Value.int IntKind.u8 0, Value.int IntKind.u8 0, Value.int IntKind.u8 0,
 Value.int IntKind.u8 0, Value.int IntKind.u8 0, Value.int IntKind.u8 0,
 Value.int IntKind.u8 0, Value.int IntKind.u8 0, Value.int IntKind.i64 2])
 r) ∧
 R (Ending.returned (Value.bool (true && x_2 == 30 && x == 0 && (↑n_4 : Int) == 1 && r))) w')
 (KeptL [n_2, n] w'_1 w'_1 ∧
 nn (false && x == 0 && (↑n_4 : Int) == 1) p fun (b o : Nat) =>
 True ∧
 ∃ (f : Nat → Int),
 ∃ (x_2 : Int),
 True ∧
 ∃ (r : Bool),
 True ∧ R (Ending.returned (Value.bool (false && x == 0 && (↑n_4 : Int) == 1 && r))) w'_1)
theorem vc_lknown (w : World) (R : Ending → World → Prop) (h : VC_lknown w R) : Calls Tryz.prog 5 ([] : List Value).toArray w R := by
  have e : execR2 { P := Tryz.prog, loops := [], pur := pur2, tails := [], joins := [], boxes := [] } Tryz.f5.results.toList R (Tryz.f5.body.getD .skip) (initF [] (Tryz.f5.ntmps - ([] : List Value).length)) w = VC_lknown w R := by kernel_rfl
  have hb : Tryz.f5.body = some (Tryz.f5.body.getD .skip) := by kernel_rfl
  exact calls_of_exec2' (P := Tryz.prog) (fn := Tryz.f5) (c := Tryz.f5.body.getD .skip) (args := []) (w := w) (R := R) pur2_ok Tryz.func5 hb e h

end Go.Proofs.YtmjanmffnblcoaaGreatDoor

/- Chapter 42: reasons compared; the examples hold (known). No condition. -/
namespace Go.Proofs.YtmjanmffnblcoaaGreatDoor
open Go.RowKit Go.Sort Go.Maps

theorem whyKey {f : Nat → Int} (hf : ∀ j, 0 ≤ f j ∧ f j ≤ 255) {k : Int} (hk : 0 ≤ k ∧ k ≤ 5) (D : Nat) : Tryz.prog.keyLits (D + 3) 53 (whyL f k) = some ((idI f).map (Lit.int .u8) ++ [.int .i64 k]) := by
  unfold Program.keyLits
  rw [Tryz.underlying53]
  simp only
  have c0 : Tryz.prog.cellsOf 53 = 33 := by kernel_rfl
  rw [if_pos ⟨by rw [c0]; rfl, by decide +kernel⟩]
  have h1 := keyLits_bytes (P := Tryz.prog) (t := 42) (e := 5) (n := 32) Tryz.underlying42 Tryz.underlying5 (by kernel_rfl) (by kernel_rfl) (idI_len f) (idI_bd hf) D
  have h2 : Tryz.prog.keyLits (D + 2) 3 [.int .i64 k] = some [.int .i64 k] := by
    unfold Program.keyLits
    rw [Tryz.underlying3]
    simp only
    have hw : (Lit.int .i64 k).wf = true := by simp [Lit.wf, IntKind.min, IntKind.max, IntKind.bits, IntKind.signed]; omega
    simp [hw]
  have c1 : Tryz.prog.cellsOf 42 = 32 := by kernel_rfl
  have c2 : Tryz.prog.cellsOf 3 = 1 := by kernel_rfl
  simp only [List.mapM_cons, List.mapM_nil, c1, c2]
  have e1 : ((whyL f k).drop 0).take 32 = (idI f).map (Value.int .u8) := rfl
  have e2 : ((whyL f k).drop 32).take 1 = [.int .i64 k] := rfl
  rw [e1, e2, h1, h2]
  simp
theorem whyEq {f : Nat → Int} (hf : ∀ j, 0 ≤ f j ∧ f j ≤ 255) {k : Int} (hk : 0 ≤ k ∧ k ≤ 5) : EqP Tryz.prog 53 (.agg (whyL f k).toArray) (.agg (whyL f k).toArray) true := by
  have hkey : keyOf Tryz.prog 53 (.agg (whyL f k).toArray) = some (.string (keyBytes ((idI f).map (Lit.int .u8) ++ [.int .i64 k]))) := by
    unfold keyOf
    rw [Tryz.underlying53]
    simp only
    have h1 : Tryz.prog.keyType 53 = true := by kernel_rfl
    have hf' : (Value.agg (whyL f k).toArray).formed Tryz.prog 53 = true := by
      unfold Value.formed
      rw [Tryz.underlying53]
      have c0 : Tryz.prog.cellsOf 53 = 33 := by kernel_rfl
      simp only
      rw [c0]; rfl
    rw [h1, hf']
    have h2 := whyKey hf hk (Tryz.prog.types.size - 2)
    have hsz : 2 ≤ Tryz.prog.types.size := by decide +kernel
    have e2 : Tryz.prog.types.size - 2 + 3 = Tryz.prog.types.size + 1 := by omega
    rw [e2] at h2
    have : (Value.agg (whyL f k).toArray).cells.toList = whyL f k := by simp [Value.cells]
    rw [this, h2]
    rfl
  refine ⟨fun w => ?_, by kernel_rfl, _, _, rfl, rfl⟩
  obtain ⟨r, hr, hi⟩ := run_equal_deep w (m := 3) (by omega) (by kernel_rfl) (by rw [Tryz.underlying53]) hkey hkey
  rw [hr, hi.2 rfl]
/-- A block is a row of elements. -/
theorem rowA_block {α : Type} {f : α → List Value} {L : Nat} {w : World} {n : Nat} {T : TypeId} {fz : Nat × Nat} {l : List α} (h : w.heap[n]? = some (.cells (l.flatMap f).toArray T fz)) (hl : ∀ y, (f y).length = L) : RowA f L w (some ⟨n, 0, none⟩) l := fun k y hy => by
  refine ⟨n, 0, rfl, AtL_block h ?_⟩
  rw [hl y, Nat.zero_add]
  apply List.ext_getElem?
  intro j
  rw [List.getElem?_take]
  split
  · rename_i hj
    rw [List.getElem?_drop]
    exact flat_get f L l k y j (fun z _ => hl z) hy hj
  · rename_i hj
    rw [List.getElem?_eq_none (by rw [hl y]; omega)]
def b0 (s : String) : ByteArray := s.toUTF8
/-- The example's rules and article. -/
def exL : List Rl := [⟨⟨#[42]⟩, 0, 10⟩, ⟨⟨#[114, 101, 99, 46, 42]⟩, 5, 30⟩]
def exI (j : Nat) : Int := if j = 0 then 1 else 0
def exA (p : Option Addr) : AX := ⟨exI, 0, 0, p, 2, [⟨#[97, 108, 116, 46, 116, 101, 115, 116]⟩, ⟨#[114, 101, 99, 46, 98, 111, 97, 116, 115]⟩], 7, 0, none, 0, [], false⟩
theorem exA_pl (p : Option Addr) : (exA p).pl = (exA none).pl := rfl
theorem ex_err : planErr exL [(exA none).pl] 43200 100 = 0 := by decide +kernel
theorem ex_plan : (refP exL 43200 100 1 [(exA none).pl]).1 = [(idI exI, 2)] := by decide +kernel
theorem ex_chk : chkR exL = 0 := by decide +kernel
theorem ex_days : daysR exL (exA none).gs = (5, 30) := by decide +kernel
set_option maxRecDepth 100000 in
theorem known_any (w : World) : Calls Tryz.prog 5 #[] w fun e w' => e = .returned (.bool true) ∧ K0 w w' := by
  refine vc_lknown w _ ?_
  intro n n1 W hW n2 n3 W1 hW1
  have kW : K0 w W := hW.kk rfl
  have kW1 : K0 W W1 := hW1.kk rfl
  have kw1 : K0 w W1 := kW.trans kW1
  have hn := hW1.cells 2 rfl
  have hn3 := hW1.cells 0 rfl
  have hgs := kW1.blk (hW.cells 0 rfl) (fun h => h)
  have hR : RowA rlC 3 W1 (some ⟨n, 0, none⟩) exL := rowA_block hn rlC_length
  have hA : RowA axC 39 W1 (some ⟨n3, 0, none⟩) [exA (some ⟨n1, 0, none⟩)] := rowA_block hn3 axC_length
  have hS : StrP W1 (some ⟨n1, 0, none⟩) (exA none).gs := fun j z hz => by
    refine ⟨n1, 0, rfl, ?_⟩
    rw [Nat.zero_add]
    refine cell_at hgs ?_
    have : j = 0 ∨ j = 1 := by have := (List.getElem?_eq_some_iff.1 hz).1; simp [exA] at this; omega
    rcases this with rfl | rfl
    · simp [exA] at hz; subst hz; rfl
    · simp [exA] at hz; subst hz; rfl
  have hX : AXR W1 (exA (some ⟨n1, 0, none⟩)) := ⟨hS, RowA.nil⟩
  have hgl : ∀ z ∈ (exA none).gs, z.size ≤ 60 := by
    intro z hz
    simp [exA] at hz
    rcases hz with rfl | rfl <;> decide
  refine ⟨(eplan_any exL (some ⟨n, 0, none⟩) 2 [exA (some ⟨n1, 0, none⟩)] (some ⟨n3, 0, none⟩) 1 43200 100 W1 hR hA (fun x hx => by simp at hx; subst hx; exact hX) (fun x hx => by
    simp at hx; subst hx
    exact ⟨Nat.le_of_ble_eq_true rfl, fun z hz => by have := hgl z hz; omega, Nat.le_of_ble_eq_true rfl, fun j => by show 0 ≤ exI j ∧ exI j ≤ 255; unfold exI; split <;> decide, fun h hh => by cases hh⟩) (Nat.le_of_ble_eq_true rfl)).mono fun e w2 ⟨k2, he⟩ => ?_⟩
  have e0 : planErr exL ([exA (some ⟨n1, 0, none⟩)].map AX.pl) 43200 100 = 0 := ex_err
  rcases he with ⟨h, _⟩ | ⟨_, R, p', c', he, hown, hplan, hRb⟩
  · exact absurd e0 h
  have hplan : R.map whyS = [(idI exI, 2)] := hplan.trans ex_plan
  obtain ⟨r, rfl⟩ : ∃ r, R = [r] := by
    match R, hplan with
    | [r], _ => exact ⟨r, rfl⟩
    | [], h => simp at h
    | _ :: _ :: _, h => simp at h
  simp only [List.map_cons, List.map_nil, List.cons.injEq, and_true] at hplan
  have hid : idI r.1 = idI exI := congrArg (·.1) hplan
  have hk : r.2 = 2 := congrArg (·.2) hplan
  refine ⟨_, _, _, _, he, .of_k0 k2, ?_⟩
  have d1 : (if chkR exL = 0 then (daysR exL (exA (some ⟨n1, 0, none⟩)).gs).1 else 0) = 5 := by
    rw [if_pos ex_chk]
    exact congrArg (·.1) ex_days
  have d2 : (if chkR exL = 0 then (daysR exL (exA (some ⟨n1, 0, none⟩)).gs).2 else 0) = 30 := by
    rw [if_pos ex_chk]
    exact congrArg (·.2) ex_days
  refine ⟨(eleast_any exL (some ⟨n, 0, none⟩) 2 (exA (some ⟨n1, 0, none⟩)) w2 (hR.k0 k2) (hS.k0 k2) (Nat.le_of_ble_eq_true rfl) (fun z hz => by have := hgl z hz; omega)).mono fun e w3 ⟨he, k3⟩ => ⟨_, he, .of_k0 k3, ?_⟩⟩
  rw [d1]
  refine bsp_intro (fun _ => ?_) (fun h => absurd h (by decide))
  refine ⟨(emost_any exL (some ⟨n, 0, none⟩) 2 (exA (some ⟨n1, 0, none⟩)) w3 (hR.k0 (k2.trans k3)) (hS.k0 (k2.trans k3)) (Nat.le_of_ble_eq_true rfl) (fun z hz => by have := hgl z hz; omega)).mono fun e w4 ⟨he, k4⟩ => ⟨_, he, .of_k0 k4, ?_⟩⟩
  rw [d2]
  have hrow : RowA whyC 33 w4 p' [r] := (RowA.own hown whyC_length (by decide)).k0 (k3.trans k4)
  obtain ⟨b, o, hp, hat⟩ := hrow 0 r rfl
  have harr : whyC r = whyL exI 2 := by
    unfold whyC whyL
    rw [arrI_idI, hid, hk]; rfl
  rw [harr, Nat.zero_mul, Nat.add_zero] at hat
  refine nn_eq hp ⟨gimp_intro fun _ => by simp, exI, 2, gimp_intro fun _ => hat, true, gimp_intro fun _ => whyEq (fun j => by unfold exI; split <;> decide) (by decide), ?_, ((kw1.trans k2).trans k3).trans k4⟩
  rfl

end Go.Proofs.YtmjanmffnblcoaaGreatDoor

/- Chapter 42: the statement's comparison of rules; ExpiryParse on worlds. -/
namespace Go.Proofs.YtmjanmffnblcoaaGreatDoor
open Go.RowKit

theorem lsame_any (L : List Rl) (p : Option Addr) (c : Nat) (q : Option Addr) (d : Nat) (w : World) (hp : RowA rlC 3 w p L) (hq : RowA rlC 3 w q L) (hl : L.length ≤ 4611686018427387904) :
    Calls Tryz.prog 8 #[.slice p L.length c, .slice q L.length d] w fun e w' => e = .returned (.bool true) ∧ K0 w w' := by
  refine vc_sameRules p L.length c q L.length d w _ ?_
  refine bsp_intro (fun h => by simp at h) (fun _ => ?_)
  refine ⟨fun vs w' => ∃ i : Nat, vs = [.int .i64 (i : Int)] ∧ i ≤ L.length ∧ K0 w w',
    fun vs _ => (match vs with | .int _ x :: _ => L.length - x.toNat | _ => 0), ⟨0, rfl, by omega, .refl _ _⟩, ?_⟩
  rintro x w1 ⟨i, hv, hi, k1⟩
  simp only [List.cons.injEq, Value.int.injEq, true_and, and_true] at hv
  subst hv
  refine bsp_intro (fun hlt => ?_) (fun hge => ⟨rfl, k1⟩)
  have hlt : i < L.length := by simp at hlt; omega
  obtain ⟨r, b, o, hr, ep, hat⟩ := (hp.k0 k1).get hlt
  obtain ⟨r', b', o', hr', eq, hat'⟩ := (hq.k0 k1).get hlt
  rw [hr] at hr'
  simp only [Option.some.injEq] at hr'
  subst hr'
  have c0 : ∀ W, K0 w1 W → W.cell? ⟨b, o + i * 3, none⟩ = some (.string r.pat) := fun W k => by simpa using (hat.k0 k).cell (j := 0) rfl
  have c1 : ∀ W, K0 w1 W → W.cell? ⟨b, o + i * 3 + 1, none⟩ = some (.int .i64 r.lo) := fun W k => (hat.k0 k).cell (j := 1) rfl
  have c2 : ∀ W, K0 w1 W → W.cell? ⟨b, o + i * 3 + 2, none⟩ = some (.int .i64 r.hi) := fun W k => (hat.k0 k).cell (j := 2) rfl
  have e0 : ∀ W, K0 w1 W → W.cell? ⟨b', o' + i * 3, none⟩ = some (.string r.pat) := fun W k => by simpa using (hat'.k0 k).cell (j := 0) rfl
  have e1 : ∀ W, K0 w1 W → W.cell? ⟨b', o' + i * 3 + 1, none⟩ = some (.int .i64 r.lo) := fun W k => (hat'.k0 k).cell (j := 1) rfl
  have e2 : ∀ W, K0 w1 W → W.cell? ⟨b', o' + i * 3 + 2, none⟩ = some (.int .i64 r.hi) := fun W k => (hat'.k0 k).cell (j := 2) rfl
  rw [Int.toNat_natCast]
  refine nn_is ep ⟨⟨by omega, by omega⟩, r.pat, fun W hW => c0 W (hW.kk rfl), nn_is eq ⟨⟨by omega, by omega⟩, r.pat, fun W hW => e0 W (hW.kk rfl), nn_is ep ⟨gimp_intro fun _ => ⟨by omega, by omega⟩, r.lo, gimp_intro fun _ => fun W hW => c1 W (hW.kk rfl), nn_is eq ⟨gimp_intro fun _ => ⟨by omega, by omega⟩, r.lo, gimp_intro fun _ => fun W hW => e1 W (hW.kk rfl),
    nn_is ep ⟨gimp_intro fun _ => ⟨by omega, by omega⟩, r.hi, gimp_intro fun _ => fun W hW => c2 W (hW.kk rfl), nn_is eq ⟨gimp_intro fun _ => ⟨by omega, by omega⟩, r.hi, gimp_intro fun _ => fun W hW => e2 W (hW.kk rfl), bsp_intro (fun h => by simp at h) (fun _ => fun W hW => ?_)⟩⟩⟩⟩⟩⟩
  exact ⟨⟨i + 1, by rw [inc64 (by omega)], hlt, k1.trans (hW.kk rfl)⟩, by rw [inc64 (by omega)]; simp only [Int.toNat_natCast]; omega⟩
theorem parseL_len : ∀ (f : Nat) (s : ByteArray) (line : Nat) (acc : List Rl), acc.length ≤ 64 → (parseL f s line acc).1.length ≤ 64
  | 0, _, _, _, _ => by simp [parseL]
  | f + 1, s, line, acc, h => by
    rw [parseL_succ]
    split
    · exact h
    split
    · simp
    split
    · simp
    split
    · simp
    · exact parseL_len f _ _ _ (by simp; omega)
theorem lexparse_any (s : ByteArray) (w : World) (hG : GX w) :
    Calls Tryz.prog 3 #[.string s] w fun e w' => e = .returned (.bool true) ∧ K0 w w' := by
  refine vc_lexparse s w _ ⟨(known_any w).mono fun e w1 ⟨he, k1⟩ => ⟨_, he, .of_k0 k1, bsp_intro (fun _ => ?_) (fun h => ?_)⟩⟩
  · exact ⟨(known_any w1).mono fun e w2 ⟨he, k2⟩ => ⟨_, he, .of_k0 k2, rfl, k1.trans k2⟩⟩
  have hs : s.size ≤ 600 := by simp at h; omega
  refine ⟨(eparse_any s w1 (by omega) (hG.k0 k1)).mono fun e w2 ⟨⟨p, c, he, ho⟩, k2⟩ => ⟨_, _, _, _, _, he, .of_k0 k2, ?_⟩⟩
  refine ⟨(rparse_any s w2 (by omega)).mono fun e w3 ⟨⟨q, d, he, ho'⟩, k3⟩ => ⟨_, _, _, _, _, he, .of_k0 k3, ?_⟩⟩
  have hl : (parseR s).1.length ≤ 64 := parseL_len _ _ _ _ (by simp)
  have hp : RowA rlC 3 w3 p (parseR s).1 := (RowA.own ho rlC_length (by decide)).k0 k3
  have hq : RowA rlC 3 w3 q (parseR s).1 := RowA.own ho' rlC_length (by decide)
  exact ⟨(lsame_any _ p c q d w3 hp hq (by omega)).mono fun e w4 ⟨he, k4⟩ => ⟨_, he, .of_k0 k4, by simp, ((k1.trans k2).trans k3).trans k4⟩⟩

end Go.Proofs.YtmjanmffnblcoaaGreatDoor
