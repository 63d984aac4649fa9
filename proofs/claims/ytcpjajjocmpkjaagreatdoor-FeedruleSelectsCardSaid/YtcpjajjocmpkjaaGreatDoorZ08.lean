/- The formulas of functions by the symbolic evaluator, and that each gives the call's contract. Written by a program (gen.py). No condition. -/
import Derived.Test.YtcpjajjocmpkjaaGreatDoorProg
import Derived.Test.YtcpjajjocmpkjaaGreatDoorZ02
import Derived.Test.YtcpjajjocmpkjaaGreatDoorZ04
import Derived.KernelRfl
import Derived.Test.YtcpjajjocmpkjaaGreatDoorZ07
namespace Go.Proofs.YtcpjajjocmpkjaaGreatDoor
set_option maxRecDepth 100000
set_option linter.unusedVariables false

def VC_rcompile (s : ByteArray) (w : World) (R : Ending → World → Prop) : Prop :=
 ∀ (n : Nat) (w1 : World),
 NewB w (Obj.cells #[Value.string (ByteArray.mk #[]), Value.slice none 0 0] 104) n w1 →
 bsp (s.toList == [])
 (WrL w1 n 0 2 ∧
 ∀ (w1_1 : World),
 PutB w1 n 0 [Value.string (ByteArray.mk #[]), Value.slice none 0 0] w1_1 →
 ∃ (x : ByteArray),
 ∃ (p : Option Addr),
 ∃ (n_1 : Nat),
 ∃ (c : Nat),
 AtL w1_1 n 0 [Value.string x, Value.slice p n_1 c] ∧
 R
 (Ending.returned
 (Value.tuple
 #[Value.agg #[Value.string x, Value.slice p n_1 c], Value.int IntKind.i64 0, Value.int IntKind.i64 4]))
 w1_1)
 (bsp (decide ((↑s.size : Int) > 80))
 (WrL w1 n 0 2 ∧
 ∀ (w1_1 : World),
 PutB w1 n 0 [Value.string (ByteArray.mk #[]), Value.slice none 0 0] w1_1 →
 ∃ (x : ByteArray),
 ∃ (p : Option Addr),
 ∃ (n_1 : Nat),
 ∃ (c : Nat),
 AtL w1_1 n 0 [Value.string x, Value.slice p n_1 c] ∧
 R
 (Ending.returned
 (Value.tuple
 #[Value.agg #[Value.string x, Value.slice p n_1 c], Value.int IntKind.i64 80, Value.int IntKind.i64 5]))
 w1_1)
 (∀ (n_1 : Nat) (w1_1 : World),
 NewB w1 (Obj.cells #[Value.string (ByteArray.mk #[]), Value.slice none 0 0] 104) n_1 w1_1 →
 WrL w1_1 n_1 0 2 ∧
 ∀ (w1 : World),
 PutB w1_1 n_1 0 [Value.string s, Value.slice none 0 0] w1 →
 ∃ (I : List Value → World → Prop),
 ∃ (m : List Value → World → Nat),
 I [Value.int IntKind.i64 0] w1 ∧
 ∀ (x : Int) (w' : World),
 I [Value.int IntKind.i64 x] w' →
 bsp (decide (x < (↑s.size : Int)))
 (∀ (n_2 : Nat) (w1 : World),
 NewB w'
 (Obj.cells
 #[Value.bool false, Value.bool false, Value.bool false, Value.bool false, Value.bool false,
 Value.bool false, Value.bool false, Value.bool false, Value.bool false, Value.bool false,
 Value.bool false, Value.bool false, Value.bool false, Value.bool false, Value.bool false,
 Value.bool false, Value.bool false, Value.bool false, Value.bool false, Value.bool false,
 Value.bool false, Value.bool false, Value.bool false, Value.bool false, Value.bool false,
 Value.bool false, Value.bool false, Value.bool false, Value.bool false, Value.bool false,
 Value.bool false, Value.bool false, Value.bool false, Value.bool false, Value.bool false,
 Value.bool false, Value.bool false, Value.bool false, Value.bool false, Value.bool false,
 Value.bool false, Value.bool false, Value.bool false, Value.bool false, Value.bool false,
 Value.bool false, Value.bool false, Value.bool false, Value.bool false, Value.bool false,
 Value.bool false, Value.bool false, Value.bool false, Value.bool false, Value.bool false,
 Value.bool false, Value.bool false, Value.bool false, Value.bool false, Value.bool false,
 Value.bool false, Value.bool false, Value.bool false, Value.bool false, Value.bool false,
 Value.bool false, Value.bool false, Value.bool false, Value.bool false, Value.bool false,
 Value.bool false, Value.bool false, Value.bool false, Value.bool false, Value.bool false,
 Value.bool false, Value.bool false, Value.bool false, Value.bool false, Value.bool false,
 Value.bool false, Value.bool false, Value.bool false, Value.bool false, Value.bool false,
 Value.bool false, Value.bool false, Value.bool false, Value.bool false, Value.bool false,
 Value.bool false, Value.bool false, Value.bool false, Value.bool false, Value.bool false,
 Value.bool false, Value.bool false, Value.bool false, Value.bool false, Value.bool false,
 Value.bool false, Value.bool false, Value.bool false, Value.bool false, Value.bool false,
 Value.bool false, Value.bool false, Value.bool false, Value.bool false, Value.bool false,
 Value.bool false, Value.bool false, Value.bool false, Value.bool false, Value.bool false,
 Value.bool false, Value.bool false, Value.bool false, Value.bool false, Value.bool false,
 Value.bool false, Value.bool false, Value.bool false, Value.bool false, Value.bool false,
 Value.bool false, Value.bool false, Value.bool false, Value.bool false]
 134)
 n_2 w1 →
 ∃ (J : List Value → World → Prop),
 ((0 ≤ x ∧ x < (↑s.size : Int)) ∧
 bsp (at8 s x.toNat == 42)
 (((∃ (u : Value), w1.cell? (Addr.mk n_2 0 none) = some u) ∧
 w1.frozen? (Addr.mk n_2 0 none) = false) ∧
 ∀ (w1_2 : World), PutB w1 n_2 0 [Value.bool true] w1_2 → J [Value.int IntKind.i64 x] w1_2)
 ((0 ≤ x ∧ x < (↑s.size : Int)) ∧
 bsp (at8 s x.toNat == 63)
 (∃ (I : List Value → World → Prop),
 ∃ (m : List Value → World → Nat),
 I [Value.int IntKind.i64 0] w1 ∧
 ∀ (x_1 : Int) (w' : World),
 I [Value.int IntKind.i64 x_1] w' →
 bsp (decide (x_1 < 128))
 ((0 ≤ x_1 ∧ x_1 < (↑128 : Int)) ∧
 ((∃ (u : Value), w'.cell? (Addr.mk n_2 (0 + 1 + x_1.toNat) none) = some u) ∧
 w'.frozen? (Addr.mk n_2 (0 + 1 + x_1.toNat) none) = false) ∧
 ∀ (w1 : World),
 PutB w' n_2 (0 + 1 + x_1.toNat) [Value.bool (charB (IntKind.u8.wrap x_1))] w1 →
 I [Value.int IntKind.i64 (IntKind.i64.wrap (x_1 + 1))] w1 ∧
 m [Value.int IntKind.i64 (IntKind.i64.wrap (x_1 + 1))] w1 <
 m [Value.int IntKind.i64 x_1] w')
 (J [Value.int IntKind.i64 x] w'))
 ((0 ≤ x ∧ x < (↑s.size : Int)) ∧
 bsp (at8 s x.toNat == 91)
 (CallsS Tryz.prog 60 #[Value.string s, Value.int IntKind.i64 x] w1
 fun (e : Ending) (w'_1 : World) =>
 ∃ (x_1 : Bool),
 ∃ (f : Nat → Bool),
 ∃ (x_2 : Int),
 e =
 Ending.returned
 (Value.tuple
 #[Value.agg
 ([Value.bool x_1] ++ arrBo f 128 0).toArray,
 Value.int IntKind.i64 x_2]) ∧
 ∀ (n_3 : Nat) (w1 : World),
 NewB w'_1
 (Obj.cells
 #[Value.bool false, Value.bool false, Value.bool false, Value.bool false,
 Value.bool false, Value.bool false, Value.bool false, Value.bool false,
 Value.bool false, Value.bool false, Value.bool false, Value.bool false,
 Value.bool false, Value.bool false, Value.bool false, Value.bool false,
 Value.bool false, Value.bool false, Value.bool false, Value.bool false,
 Value.bool false, Value.bool false, Value.bool false, Value.bool false,
 Value.bool false, Value.bool false, Value.bool false, Value.bool false,
 Value.bool false, Value.bool false, Value.bool false, Value.bool false,
 Value.bool false, Value.bool false, Value.bool false, Value.bool false,
 Value.bool false, Value.bool false, Value.bool false, Value.bool false,
 Value.bool false, Value.bool false, Value.bool false, Value.bool false,
 Value.bool false, Value.bool false, Value.bool false, Value.bool false,
 Value.bool false, Value.bool false, Value.bool false, Value.bool false,
 Value.bool false, Value.bool false, Value.bool false, Value.bool false,
 Value.bool false, Value.bool false, Value.bool false, Value.bool false,
 Value.bool false, Value.bool false, Value.bool false, Value.bool false,
 Value.bool false, Value.bool false, Value.bool false, Value.bool false,
 Value.bool false, Value.bool false, Value.bool false, Value.bool false,
 Value.bool false, Value.bool false, Value.bool false, Value.bool false,
 Value.bool false, Value.bool false, Value.bool false, Value.bool false,
 Value.bool false, Value.bool false, Value.bool false, Value.bool false,
 Value.bool false, Value.bool false, Value.bool false, Value.bool false,
 Value.bool false, Value.bool false, Value.bool false, Value.bool false,
 Value.bool false, Value.bool false, Value.bool false, Value.bool false,
 Value.bool false, Value.bool false, Value.bool false, Value.bool false,
 Value.bool false, Value.bool false, Value.bool false, Value.bool false,
 Value.bool false, Value.bool false, Value.bool false, Value.bool false,
 Value.bool false, Value.bool false, Value.bool false, Value.bool false,
 Value.bool false, Value.bool false, Value.bool false, Value.bool false,
 Value.bool false, Value.bool false, Value.bool false, Value.bool false,
 Value.bool false, Value.bool false, Value.bool false, Value.bool false,
 Value.bool false, Value.bool false, Value.bool false, Value.bool false,
 Value.bool false]
 134)
 n_3 w1 →
 WrL w1 n_3 0 129 ∧
 ∀ (w1_2 : World),
 PutB w1 n_3 0
 ([Value.bool x_1] ++ arrBo f 128 0)
 w1_2 →
 bsp (decide (x_2 < 0))
 (WrL w1_2 n 0 2 ∧
 ∀ (w1 : World),
 PutB w1_2 n 0 [Value.string (ByteArray.mk #[]), Value.slice none 0 0] w1 →
 ∃ (x_3 : ByteArray),
 ∃ (p : Option Addr),
 ∃ (n_4 : Nat),
 ∃ (c : Nat),
 AtL w1 n 0 [Value.string x_3, Value.slice p n_4 c] ∧
 R
 (Ending.returned
 (Value.tuple
 #[Value.agg #[Value.string x_3, Value.slice p n_4 c],
 Value.int IntKind.i64 x, Value.int IntKind.i64 3]))
 w1)
 (∃ (p : Option Addr),
 ∃ (n : Nat),
 ∃ (c : Nat),
 w1_2.cell? (Addr.mk n_1 (0 + 1) none) = some (Value.slice p n c) ∧
 ∃ (x_3 : Bool),
 ∃ (f : Nat → Bool),
 AtL w1_2 n_3 0
 ([Value.bool x_3] ++ arrBo f 128 0) ∧
 ∀ (n_4 : Nat) (w1 : World),
 NewB w1_2
 (Obj.cells
 ([Value.bool x_3] ++ arrBo f 128 0).toArray
 134)
 n_4 w1 →
 ∃ (base : Nat),
 ∃ (xs : List Value),
 ∃ (news : List Value),
 w1.ownsRow base 134 129 (Value.slice p n c) n xs ∧
 news.length = 129 ∧
 SrcP w1 (some (Addr.mk n_4 0 none)) news ∧
 n + 1 ≤ 9223372036854775807 ∧
 (n + 1) * 129 ≤ 140737488355328 ∧
 base ≤ w1.heap.size ∧
 ∀ (p' : Option Addr) (c' : Nat) (w'_2 : World),
 w'_2.ownsRow base 134 129 (Value.slice p' (n + 1) c') (n + 1)
 (xs ++ news) →
 w1.grownBy w'_2 (Value.slice p n c).ownBlock →
 ((∃ (u : Value),
 w'_2.cell? (Addr.mk n_1 (0 + 1) none) = some u) ∧
 w'_2.frozen? (Addr.mk n_1 (0 + 1) none) = false) ∧
 ∀ (w1 : World),
 PutB w'_2 n_1 (0 + 1) [Value.slice p' (n + 1) c'] w1 →
 I [Value.int IntKind.i64 x_2] w1 ∧
 m [Value.int IntKind.i64 x_2] w1 <
 m [Value.int IntKind.i64 x] w'))
 ((0 ≤ x ∧ x < (↑s.size : Int)) ∧
 bsp (charB (at8 s x.toNat))
 ((0 ≤ x ∧ x < (↑s.size : Int)) ∧
 (0 ≤ at8 s x.toNat ∧ at8 s x.toNat < (↑128 : Int)) ∧
 ((∃ (u : Value), w1.cell? (Addr.mk n_2 (0 + 1 + (at8 s x.toNat).toNat) none) = some u) ∧
 w1.frozen? (Addr.mk n_2 (0 + 1 + (at8 s x.toNat).toNat) none) = false) ∧
 ∀ (w1_2 : World),
 PutB w1 n_2 (0 + 1 + (at8 s x.toNat).toNat) [Value.bool true] w1_2 →
 J [Value.int IntKind.i64 x] w1_2)
 (WrL w1 n 0 2 ∧
 ∀ (w1_2 : World),
 PutB w1 n 0 [Value.string (ByteArray.mk #[]), Value.slice none 0 0] w1_2 →
 ∃ (x_1 : ByteArray),
 ∃ (p : Option Addr),
 ∃ (n_3 : Nat),
 ∃ (c : Nat),
 AtL w1_2 n 0 [Value.string x_1, Value.slice p n_3 c] ∧
 R
 (Ending.returned
 (Value.tuple
 #[Value.agg #[Value.string x_1, Value.slice p n_3 c], Value.int IntKind.i64 x,
 Value.int IntKind.i64 6]))
 w1_2))))) ∧
 ∀ (x_1 : Int) (w'_1 : World),
 J [Value.int IntKind.i64 x_1] w'_1 →
 ∃ (p : Option Addr),
 ∃ (n : Nat),
 ∃ (c : Nat),
 w'_1.cell? (Addr.mk n_1 (0 + 1) none) = some (Value.slice p n c) ∧
 ∃ (x_2 : Bool),
 ∃ (f : Nat → Bool),
 AtL w'_1 n_2 0
 ([Value.bool x_2] ++ arrBo f 128 0) ∧
 ∀ (n_3 : Nat) (w1 : World),
 NewB w'_1
 (Obj.cells
 ([Value.bool x_2] ++ arrBo f 128 0).toArray
 134)
 n_3 w1 →
 ∃ (base : Nat),
 ∃ (xs : List Value),
 ∃ (news : List Value),
 w1.ownsRow base 134 129 (Value.slice p n c) n xs ∧
 news.length = 129 ∧
 SrcP w1 (some (Addr.mk n_3 0 none)) news ∧
 n + 1 ≤ 9223372036854775807 ∧
 (n + 1) * 129 ≤ 140737488355328 ∧
 base ≤ w1.heap.size ∧
 ∀ (p' : Option Addr) (c' : Nat) (w'_2 : World),
 w'_2.ownsRow base 134 129 (Value.slice p' (n + 1) c') (n + 1) (xs ++ news) →
 w1.grownBy w'_2 (Value.slice p n c).ownBlock →
 ((∃ (u : Value), w'_2.cell? (Addr.mk n_1 (0 + 1) none) = some u) ∧
 w'_2.frozen? (Addr.mk n_1 (0 + 1) none) = false) ∧
 ∀ (w1 : World),
 PutB w'_2 n_1 (0 + 1) [Value.slice p' (n + 1) c'] w1 →
 I [Value.int IntKind.i64 (IntKind.i64.wrap (x_1 + 1))] w1 ∧
 m [Value.int IntKind.i64 (IntKind.i64.wrap (x_1 + 1))] w1 <
 m [Value.int IntKind.i64 x] w')
 (∃ (x : ByteArray),
 ∃ (p : Option Addr),
 ∃ (n_2 : Nat),
 ∃ (c : Nat),
 AtL w' n_1 0 [Value.string x, Value.slice p n_2 c] ∧
 WrL w' n 0 2 ∧
 ∀ (w1 : World),
 PutB w' n 0 [Value.string x, Value.slice p n_2 c] w1 →
 ∃ (x : ByteArray),
 ∃ (p : Option Addr),
 ∃ (n_3 : Nat),
 ∃ (c : Nat),
 AtL w1 n 0 [Value.string x, Value.slice p n_3 c] ∧
 R
 (Ending.returned
 (Value.tuple
 #[Value.agg #[Value.string x, Value.slice p n_3 c], Value.int IntKind.i64 0,
 Value.int IntKind.i64 0]))
 w1)))
theorem vc_rcompile (s : ByteArray) (w : World) (R : Ending → World → Prop) (h : VC_rcompile s w R) : Calls Tryz.prog 44 ([Value.string
    s] : List Value).toArray w R := by
  have e : execR { P := Tryz.prog, loops := [(7, [(6, Ck.int IntKind.i64)]), (14, [(8, Ck.int IntKind.i64)])], pur := pur1, tails := [], joins := [(25, [(6, Ck.int IntKind.i64)])], boxes := [] } Tryz.f44.results.toList R (Tryz.f44.body.getD .skip) (initF [Value.string
    s] (Tryz.f44.ntmps - ([Value.string s] : List Value).length)) w = VC_rcompile s w R := by kernel_rfl
  have hb : Tryz.f44.body = some (Tryz.f44.body.getD .skip) := by kernel_rfl
  exact calls_of_exec' (P := Tryz.prog) (fn := Tryz.f44) (c := Tryz.f44.body.getD .skip) (args := [Value.string
    s]) (w := w) (R := R) pur1_ok Tryz.func44 hb e h

end Go.Proofs.YtcpjajjocmpkjaaGreatDoor

/- The contract of the reference's Compile: it agrees with the program's. No condition. -/
namespace Go.Proofs.YtcpjajjocmpkjaaGreatDoor
open Go.RowKit

/-- The cells of elements of the reference. -/
def rows (rs : List RE) : List Value := rs.flatMap fun r => reL r.star r.set
theorem rows_length : ∀ rs : List RE, (rows rs).length = rs.length * 129
  | [] => rfl
  | r :: rs => by
    have := rows_length rs
    unfold rows at this ⊢
    rw [List.flatMap_cons, List.length_append, reL_length, this, List.length_cons]
    omega
theorem rows_snoc (rs : List RE) (r : RE) : rows (rs ++ [r]) = rows rs ++ reL r.star r.set := by simp [rows]
/-- A pattern that is being made. -/
def RSt (w : World) (n : Nat) (s : ByteArray) (rs : List RE) : Prop :=
  ∃ (p : Option Addr) (c : Nat), w.heap[n]? = some (.cells #[.string s, .slice p rs.length c] 104 (0, 0)) ∧ w.ownsRow (n + 1) 134 129 (.slice p rs.length c) rs.length (rows rs)
theorem RSt.kp {w w' : World} {n : Nat} {s : ByteArray} {rs : List RE} (h : RSt w n s rs) (hk : K0 w w') : RSt w' n s rs := by
  obtain ⟨p, c, h1, h2⟩ := h
  exact ⟨p, c, hk.blk h1 (fun h => h), owns_kp h2 hk (fun _ _ h => h)⟩
def PB (w : World) (n : Nat) : Prop := ∃ v u, w.heap[n]? = some (.cells #[v, u] 104 (0, 0))
theorem PB.kp {M : Nat → Prop} {w w' : World} {n : Nat} (h : PB w n) (hk : Kp M w w') (hm : ¬ M n) : PB w' n := by
  obtain ⟨v, u, h⟩ := h; exact ⟨v, u, hk.blk h hm⟩
theorem PB.wr {w : World} {n : Nat} (h : PB w n) : WrL w n 0 2 := by obtain ⟨v, u, h⟩ := h; exact WrL_block h (by simp)
theorem PB.put {w w1 : World} {n : Nat} (h : PB w n) {v u : Value} (hp : PutB w n 0 [v, u] w1) : w1.heap[n]? = some (.cells #[v, u] 104 (0, 0)) := by
  obtain ⟨v', u', h⟩ := h; exact hp.full h rfl
theorem SetB.star {w w1 : World} {n : Nat} {b : Bool} {f : Nat → Bool} (h : SetB w n b f) {v : Bool} (hp : PutB w n 0 [.bool v] w1) : SetB w1 n v f := by
  have := hp.block h
  unfold SetB
  rw [this]
  congr 2
theorem reL_one (b : Bool) (f : Nat → Bool) : ∀ u ∈ reL b f, u.oneCell' = true := by
  intro u hu
  unfold reL at hu
  rcases List.mem_append.1 hu with h | h
  · simp at h; subst h; rfl
  · obtain ⟨j, hj, e⟩ := List.getElem_of_mem h
    have hj' : j < 128 := by rw [arrBo_length] at hj; exact hj
    have := arrBo_get f 128 0 j hj'
    rw [List.getElem?_eq_getElem hj] at this
    simp at this
    rw [← e, this]; rfl
theorem extract1 {s : ByteArray} {k : Nat} (h : k < s.size) : s.extract k (k + 1) = b1 (at8 s k) := by
  have hsz : (s.extract k (k + 1)).size = 1 := by rw [ByteArray.size_extract]; omega
  have hb := at8_byte (s := s.extract k (k + 1)) (k := 0) (by omega)
  rw [at8_extract s k (k + 1) 0 (by omega) (by omega)] at hb
  have hl : (s.extract k (k + 1)).data.toList.length = 1 := by rw [Array.length_toList]; exact hsz
  have : (s.extract k (k + 1)).data.toList = [(at8 s k).toNat.toUInt8] := by
    match hm : (s.extract k (k + 1)).data.toList, hl with
    | [a], _ => rw [hm] at hb; simp at hb; rw [hb]
  unfold b1
  cases hx : s.extract k (k + 1) with
  | mk d =>
    rw [hx] at this
    congr 1
    apply Array.toList_inj.1
    simpa using this
theorem rel_star : RelE .star ⟨true, fun _ => false⟩ := ⟨rfl, (fun h => by cases h), fun c h0 h1 h => by rw [← name_char c h0 h1]; exact h⟩
theorem rel_one (f : Nat → Bool) (hf : ∀ c : Nat, c < 128 → f c = charB c) : RelE .one ⟨false, f⟩ := ⟨rfl, fun _ c hc => by
  show hasB nameBytes c = f c
  rw [name_char c (by omega) (by omega), hf c hc], fun c h0 h1 h => by rw [← name_char c h0 h1]; exact h⟩
theorem rel_lit {s : ByteArray} {k : Nat} (h : k < s.size) (hc : charB (at8 s k) = true) (f : Nat → Bool) (hf : ∀ c : Nat, c < 128 → f c = decide ((c : Int) = at8 s k)) : RelE (.lit (s.extract k (k + 1))) ⟨false, f⟩ := by
  have hh : ∀ c : Int, 0 ≤ c → c ≤ 255 → hasB (El.lit (s.extract k (k + 1))).chars c = decide (c = at8 s k) := fun c h0 h1 => by
    show hasB (s.extract k (k + 1)) c = _
    rw [extract1 h]
    have := hasB_b1 (a := ⟨#[]⟩) (c := at8 s k) (d := c) (at8_bd s k) ⟨h0, h1⟩
    have e : (⟨#[]⟩ : ByteArray) ++ b1 (at8 s k) = b1 (at8 s k) := ByteArray.empty_append
    rw [e] at this
    rw [this]
    have : hasB ⟨#[]⟩ c = false := rfl
    rw [this, Bool.false_or]
  refine ⟨rfl, fun _ c hc => ?_, fun c h0 h1 hx => ?_⟩
  · show _ = f c
    rw [hh c (by omega) (by omega), hf c hc]
  · rw [hh c h0 h1] at hx
    have : c = at8 s k := by simpa using hx
    rw [this]; exact hc

/-- What the reference's Compile yields. -/
def RcPost (s : ByteArray) (w : World) (e : Ending) (w' : World) : Prop := K0 w w' ∧
    match compileR s with
    | .inl els => ∃ p c rs, e = .returned (.tuple #[.agg #[.string s, .slice p rs.length c], .int .i64 0, .int .i64 0]) ∧ w'.ownsRow w.heap.size 134 129 (.slice p rs.length c) rs.length (rows rs) ∧ RelEs els rs
    | .inr (o, x) => e = .returned (.tuple #[.agg #[.string ⟨#[]⟩, .slice none 0 0], .int .i64 o, .int .i64 x])
set_option maxHeartbeats 1000000 in
set_option maxRecDepth 100000 in
theorem rcompile_any (s : ByteArray) (w : World) : Calls Tryz.prog 44 #[.string s] w (RcPost s w) := by
  refine vc_rcompile s w _ ?_
  intro n w1 hn
  have p1 : PB w1 n := ⟨_, _, hn.block⟩
  have gn : w.heap.size ≤ n := hn.ge
  have k1 : K0 w w1 := hn.kp _
  have fail : ∀ (wx : World) (o : Int) (x : Int), PB wx n → K0 w wx → (∀ w', K0 w w' → RcPost s w (.returned (.tuple #[.agg #[.string ⟨#[]⟩, .slice none 0 0], .int .i64 o, .int .i64 x])) w') →
      WrL wx n 0 2 ∧ ∀ (w1 : World), PutB wx n 0 [.string ⟨#[]⟩, .slice none 0 0] w1 → ∃ (x_1 : ByteArray) (p : Option Addr) (n_1 c : Nat), AtL w1 n 0 [.string x_1, .slice p n_1 c] ∧ RcPost s w (.returned (.tuple #[.agg #[.string x_1, .slice p n_1 c], .int .i64 o, .int .i64 x])) w1 := fun wx o x hpb hkx hfin =>
    ⟨hpb.wr, fun wy hp => ⟨_, _, _, _, AtL_block (hpb.put hp) rfl, hfin wy (hkx.fresh hp.kp (fun i hi e => by omega))⟩⟩
  rw [toList_nil]
  refine bsp_intro (fun h0 => ?_) (fun h0 => bsp_intro (fun h1 => ?_) (fun h1 => ?_))
  · have h0 : s.size = 0 := by simpa using h0
    exact fail w1 0 4 p1 k1 (fun w' hk => ⟨hk, by simp only [compileR, h0, if_true]; rfl⟩)
  · have h0 : ¬ s.size = 0 := by simpa using h0
    have h1 : 80 < s.size := by simp at h1; omega
    exact fail w1 80 5 p1 k1 (fun w' hk => ⟨hk, by simp only [compileR, h0, h1, if_true, if_false]; rfl⟩)
  have h0 : ¬ s.size = 0 := by simpa using h0
  have h1 : ¬ 80 < s.size := by simp at h1; omega
  have hR : compileR s = compS s s.size 0 [] := by simp only [compileR, h0, h1, if_false]
  intro n1 w2 hn1
  have hn1' : n < n1 := by have := hn.size; have := hn1.hn; omega
  refine ⟨WrL_block hn1.block (by simp), fun w3 hp3 => ?_⟩
  have k13 : K0 w1 w3 := (hn1.kp (fun _ => False)).fresh hp3.kp (fun i hi e => by have := hn1.hn; omega)
  have st3 : RSt w3 n1 s [] := ⟨none, 0, hp3.full hn1.block rfl, World.ownsRow_nil _ _ _ _⟩
  -- one element more
  have app : ∀ (b : Bool) (f : Nat → Bool) (rs : List RE) (wa : World), RSt wa n1 s rs → PB wa n → K0 w wa → rs.length ≤ 80 →
      ∃ (p : Option Addr) (n_3 c : Nat), wa.cell? (Addr.mk n1 (0 + 1) none) = some (.slice p n_3 c) ∧ ∀ (n_2 : Nat), SetB wa n_2 b f → ∃ (x_2 : Bool) (f' : Nat → Bool), AtL wa n_2 0 ([Value.bool x_2] ++ arrBo f' 128 0) ∧ ∀ (n_4 : Nat) (wb : World), NewB wa (.cells ([Value.bool x_2] ++ arrBo f' 128 0).toArray 134) n_4 wb → ∀ (Y : World → Prop), (∀ w2, RSt w2 n1 s (rs ++ [⟨b, f⟩]) → PB w2 n → K0 w w2 → Y w2) →
        ∃ (base : Nat) (xs news : List Value), wb.ownsRow base 134 129 (.slice p n_3 c) n_3 xs ∧ news.length = 129 ∧ SrcP wb (some (Addr.mk n_4 0 none)) news ∧ n_3 + 1 ≤ 9223372036854775807 ∧ (n_3 + 1) * 129 ≤ 140737488355328 ∧ base ≤ wb.heap.size ∧
          ∀ (p' : Option Addr) (c' : Nat) (w' : World), w'.ownsRow base 134 129 (.slice p' (n_3 + 1) c') (n_3 + 1) (xs ++ news) → wb.grownBy w' (Value.slice p n_3 c).ownBlock →
            ((∃ (u : Value), w'.cell? (Addr.mk n1 (0 + 1) none) = some u) ∧ w'.frozen? (Addr.mk n1 (0 + 1) none) = false) ∧ ∀ (w1 : World), PutB w' n1 (0 + 1) [Value.slice p' (n_3 + 1) c'] w1 → Y w1 := by
    intro b f rs wa ⟨p, c, hb, ho⟩ hpb hwa hlen
    refine ⟨p, rs.length, c, cell_at hb rfl, fun n_2 hs => ⟨b, f, hs.at_, fun n_4 wb hn4 Y hY => ?_⟩⟩
    refine app1 ho (block_lt hb) hn4 (by simp [arrBo_length]) (fun u hu => reL_one b f u hu) (by omega) (by omega) (fun p' c' w' ho' hk' _ => ?_)
    have hne : ∀ k, (Value.slice p rs.length c).ownBlock = some k → ¬ n1 = k := fun k hk e => by have := own_ge ho hk; omega
    have hb' : w'.heap[n1]? = some (.cells #[.string s, .slice p rs.length c] 104 (0, 0)) := hk'.blk hb (fun e => hne _ e rfl)
    refine ⟨cell_wr hb' (by simp), fun w2 hp => hY w2 ⟨p', c', ?_, ?_⟩ ((hpb.kp hk' (fun e => by have := own_ge ho e; omega)).kp hp.kp (fun e => by omega)) ?_⟩
    · rw [List.length_append]; exact hp.block hb'
    · rw [rows_snoc, List.length_append]
      have : ([Value.bool b] ++ arrBo f 128 0).toArray.toList = reL b f := rfl
      rw [this] at ho'
      exact owns_kp ho' hp.kp (fun k hk e => by have := own_ge ho' hk; omega)
    · have := hwa.size
      exact (hwa.fresh hk' (fun i hi e => by have := own_ge ho e; omega)).fresh hp.kp (fun i hi e => by omega)
  refine ⟨fun vs w' => ∃ (k f : Nat) (acc : List El) (rs : List RE), vs = [.int .i64 k] ∧ k ≤ s.size ∧ s.size - k ≤ f ∧ acc.length ≤ k ∧ compS s f k acc = compS s s.size 0 [] ∧ RelEs acc rs ∧ RSt w' n1 s rs ∧ PB w' n ∧ K0 w w',
    fun vs _ => (match vs with | .int _ x :: _ => s.size - x.toNat | _ => 0), ⟨0, s.size, [], [], rfl, by omega, by omega, by simp, rfl, ⟨rfl, fun j e r h _ => by simp at h⟩, st3, p1.kp k13 (fun h => h), k1.trans k13⟩, fun x w' ⟨k, f, acc, rs, hv, hk, hf, hacc, hS, hrel, hst, hpb, hw⟩ => ?_⟩
  have hv : x = (k : Int) := by simpa using hv
  subst hv
  have hrl : rs.length ≤ k := by rw [← hrel.len]; exact hacc
  refine bsp_intro (fun hlt => ?_) (fun hge => ?_)
  · have hlt : k < s.size := by simpa using hlt
    obtain ⟨f, rfl⟩ : ∃ g, f = g + 1 := ⟨f - 1, by omega⟩
    have e0 : (k : Int).toNat = k := by omega
    rw [e0]
    have hin : 0 ≤ (k : Int) ∧ (k : Int) < (s.size : Int) := by omega
    intro n2 w4 hn2
    have b4 : SetB w4 n2 false (fun _ => false) := setB_new (by kernel_rfl) hn2
    have g2 : w'.heap.size ≤ n2 := hn2.ge
    have k4 : K0 w' w4 := hn2.kp _
    refine ⟨fun vs wx => ∃ (b : Bool) (g : Nat → Bool) (el : El), vs = [.int .i64 (k : Int)] ∧ SetB wx n2 b g ∧ RelE el ⟨b, g⟩ ∧ compS s f (k + 1) (acc ++ [el]) = compS s s.size 0 [] ∧ K0 w' wx, ⟨hin, ?_⟩, fun x_1 wx ⟨b, g, el, hv, hs, hre, hcs, hkx⟩ => ?_⟩
    · refine bsp_intro (fun c1 => ⟨cell_wr b4 (by simp [reL]), fun w5 hp => ⟨true, fun _ => false, .star, rfl, b4.star hp, rel_star, ?_, k4.fresh hp.kp (fun i hi e => by omega)⟩⟩) (fun c1 => ⟨hin, bsp_intro (fun c2 => ?_) (fun c2 => ⟨hin, bsp_intro (fun c3 => ?_) (fun c3 => ⟨hin, bsp_intro (fun c4 => ?_) (fun c4 => ?_)⟩)⟩)⟩)
      · rw [← hS]
        have : (at8 s k == 63) = false := by
          have : at8 s k = 42 := by simpa using c1
          rw [this]; rfl
        simp [compS, hlt, this, c1]
      · refine ⟨fun vs wx => ∃ m : Nat, vs = [.int .i64 m] ∧ m ≤ 128 ∧ SetB wx n2 false (fun d => decide (d < m) && charB d) ∧ K0 w' wx, fun vs _ => (match vs with | .int _ x :: _ => 128 - x.toNat | _ => 0), ⟨0, rfl, by omega, b4.congr (fun d _ => by simp), k4⟩, ?_⟩
        rintro x wy ⟨m, hv, hm, hby, hky⟩
        have hv : x = (m : Int) := by simpa using hv
        subst hv
        refine bsp_intro (fun hlm => ?_) (fun hgm => ?_)
        · have hlm : m < 128 := by simp at hlm; omega
          have eu : IntKind.u8.wrap (m : Int) = (m : Int) := IntWalk.u8_in m ⟨by omega, by omega⟩
          rw [eu, Int.toNat_natCast]
          refine ⟨⟨by omega, by omega⟩, hby.wr hlm, fun wz hp => ⟨⟨m + 1, ?_, by omega, (hby.put hp).congr (fun d _ => ?_), hky.fresh hp.kp (fun i hi e => by omega)⟩, ?_⟩⟩
          · rw [wr64 (by omega) (by omega)]; rfl
          · show (if d = m then charB m else (decide (d < m) && charB d)) = (decide (d < m + 1) && charB d)
            by_cases e : d = m
            · subst e; simp
            · rw [if_neg e]
              have : decide (d < m) = decide (d < m + 1) := by rw [decide_eq_decide]; omega
              rw [this]
          · rw [wr64 (by omega) (by omega)]
            simp only
            omega
        · have hgm : ¬ m < 128 := by simp at hgm; omega
          refine ⟨false, _, .one, rfl, hby, rel_one _ (fun c hc => ?_), ?_, hky⟩
          · have : decide (c < m) = true := by simp; omega
            rw [this, Bool.true_and]
          · rw [← hS]
            simp [compS, hlt, c2]
      · have c3' : at8 s k = 91 := by simpa using c3
        refine ⟨(rclass_any s k w4 hlt c3' (by omega)).mono fun e w5 ⟨hk5, he⟩ => ?_⟩
        have hcs0 : compS s (f + 1) k acc = if clsN (s.extract k s.size) = 0 then .inr (k, 3) else compS s f (k + clsN (s.extract k s.size)) (acc ++ [.cls (clsS (s.extract k s.size))]) := by simp [compS, hlt, c1, c2, c3]
        have hxs : (s.extract k s.size).size = s.size - k := by rw [ByteArray.size_extract]; omega
        have hle := clsN_le (s.extract k s.size) (by omega)
        rcases he with ⟨h0, b, g, he⟩ | ⟨h0, g, he, hre⟩
        · refine ⟨b, g, _, he, fun n3 w6 hn3 => ?_⟩
          have b6 : SetB w6 n3 false (fun _ => false) := setB_new (by kernel_rfl) hn3
          refine ⟨b6.wrl, fun w7 hp7 => bsp_intro (fun _ => ?_) (fun h => absurd h (by decide))⟩
          have k7 : K0 w' w7 := ((k4.trans hk5).trans (hn3.kp _)).fresh hp7.kp (fun i hi e => by have := (k4.trans hk5).size; have := hn3.ge; omega)
          refine fail w7 k 3 (hpb.kp k7 (fun h => h)) (hw.trans k7) (fun w' hk => ⟨hk, ?_⟩)
          rw [hR, ← hS, hcs0, if_pos h0]
        · refine ⟨false, g, _, he, fun n3 w6 hn3 => ?_⟩
          have b6 : SetB w6 n3 false (fun _ => false) := setB_new (by kernel_rfl) hn3
          refine ⟨b6.wrl, fun w7 hp7 => bsp_intro (fun h => ?_) (fun _ => ?_)⟩
          · exfalso; simp at h; omega
          have k7 : K0 w' w7 := ((k4.trans hk5).trans (hn3.kp _)).fresh hp7.kp (fun i hi e => by have := (k4.trans hk5).size; have := hn3.ge; omega)
          have b7 : SetB w7 n3 false g := b6.full hp7
          rw [if_neg h0] at hcs0
          obtain ⟨p, n_3, c, q1, q2⟩ := app false g rs w7 (hst.kp k7) (hpb.kp k7 (fun h => h)) (hw.trans k7) (by omega)
          obtain ⟨x2, f2, q3, q4⟩ := q2 n3 b7
          refine ⟨p, n_3, c, q1, x2, f2, q3, fun n4 w8 hn4 => q4 n4 w8 hn4 _ (fun w9 r1 r2 r3 => ⟨⟨k + clsN (s.extract k s.size), f, _, _, rfl, by omega, by omega, ?_, hcs0.symm.trans hS, hrel.snoc hre, r1, r2, r3⟩, ?_⟩)⟩
          · simp; omega
          · simp only; omega
      · have hcb := charB_lt c4
        refine ⟨hin, ⟨hcb.1, hcb.2⟩, b4.wr (by omega), fun w5 hp => ⟨false, _, .lit (s.extract k (k + 1)), rfl, b4.put hp, rel_lit hlt c4 _ (fun c hc => ?_), ?_, k4.fresh hp.kp (fun i hi e => by omega)⟩⟩
        · show (if c = (at8 s k).toNat then true else false) = decide ((c : Int) = at8 s k)
          by_cases e : c = (at8 s k).toNat
          · rw [if_pos e]; simp; omega
          · rw [if_neg e]; simp; omega
        · rw [← hS]
          have : hasB nameBytes (at8 s k) = true := by rw [name_char _ hcb.1 (by omega)]; exact c4
          simp [compS, hlt, c1, c2, c3, this]
      · refine fail w4 k 6 (hpb.kp k4 (fun h => h)) (hw.trans k4) (fun w' hk => ⟨hk, ?_⟩)
        rw [hR, ← hS]
        have : hasB nameBytes (at8 s k) = false := by rw [name_char _ (at8_bd s k).1 (at8_bd s k).2]; exact c4
        simp only [compS, hlt, if_true, c1, c2, c3, this, Bool.false_eq_true, if_false]
    · have hv : x_1 = (k : Int) := by simpa using hv
      subst hv
      rw [wr64 (by omega) (by omega)]
      obtain ⟨p, n_3, c, q1, q2⟩ := app b g rs wx (hst.kp hkx) (hpb.kp hkx (fun h => h)) (hw.trans hkx) (by omega)
      obtain ⟨x2, f2, q3, q4⟩ := q2 n2 hs
      refine ⟨p, n_3, c, q1, x2, f2, q3, fun n4 w8 hn4 => q4 n4 w8 hn4 _ (fun w9 r1 r2 r3 => ⟨⟨k + 1, f, _, _, rfl, by omega, by omega, ?_, hcs, hrel.snoc hre, r1, r2, r3⟩, ?_⟩)⟩
      · simp; omega
      · simp only; omega
  · have hge : ¬ k < s.size := by simpa using hge
    have hc : compS s f k acc = .inl acc := by cases f <;> simp [compS, hge]
    obtain ⟨p, c, hb, ho⟩ := hst
    refine ⟨_, _, _, _, AtL_block hb rfl, hpb.wr, fun wy hp => ⟨_, _, _, _, AtL_block (hpb.put hp) rfl, hw.fresh hp.kp (fun i hi e => by omega), ?_⟩⟩
    rw [hR, ← hS, hc]
    refine ⟨p, c, rs, rfl, ?_, hrel⟩
    have ho' := owns_kp ho hp.kp (fun k hk e => by have := own_ge ho hk; omega)
    exact ⟨ho'.1, ho'.2.imp id fun ⟨g, cap, cur, a1, a2, a3⟩ => ⟨g, cap, cur, a1, by omega, a3⟩⟩

end Go.Proofs.YtcpjajjocmpkjaaGreatDoor

/- The formulas of functions by the symbolic evaluator, and that each gives the call's contract. Written by a program (gen.py). No condition. -/
namespace Go.Proofs.YtcpjajjocmpkjaaGreatDoor
set_option maxRecDepth 100000
set_option linter.unusedVariables false

def VC_rparseList (s : ByteArray) (w : World) (R : Ending → World → Prop) : Prop :=
 bsp (s.toList == [])
 (R (Ending.returned (Value.tuple #[Value.slice none 0 0, Value.int IntKind.i64 0, Value.int IntKind.i64 4])) w)
 (∃ (I : List Value → World → Prop),
 ∃ (m : List Value → World → Nat),
 I [Value.int IntKind.i64 0, Value.int IntKind.i64 0, Value.slice none 0 0] w ∧
 ∀ (x x_1 : Int) (p : Option Addr) (n c : Nat) (w' : World),
 I [Value.int IntKind.i64 x, Value.int IntKind.i64 x_1, Value.slice p n c] w' →
 bsp (decide (x ≤ (↑s.size : Int)))
 (gimp (decide (x < (↑s.size : Int))) (0 ≤ x ∧ x < (↑s.size : Int)) ∧
 bsp (decide (x < (↑s.size : Int)) && at8 s x.toNat != 44)
 (I [Value.int IntKind.i64 (IntKind.i64.wrap (x + 1)), Value.int IntKind.i64 x_1, Value.slice p n c] w' ∧
 m [Value.int IntKind.i64 (IntKind.i64.wrap (x + 1)), Value.int IntKind.i64 x_1, Value.slice p n c] w' <
 m [Value.int IntKind.i64 x, Value.int IntKind.i64 x_1, Value.slice p n c] w')
 (bsp ((↑n : Int) == 64)
 (R (Ending.returned (Value.tuple #[Value.slice none 0 0, Value.int IntKind.i64 x_1, Value.int IntKind.i64 9]))
 w')
 (∀ (n_1 : Nat) (w1 : World),
 NewB w' (Obj.cells #[Value.int IntKind.i64 0, Value.string (ByteArray.mk #[]), Value.slice none 0 0] 106) n_1
 w1 →
 WrL w1 n_1 0 3 ∧
 ∀ (w1_1 : World),
 PutB w1 n_1 0 [Value.int IntKind.i64 1, Value.string (ByteArray.mk #[]), Value.slice none 0 0] w1_1 →
 ∃ (J : List Value → World → Prop),
 (gimp (decide (x_1 < x)) (0 ≤ x_1 ∧ x_1 < (↑s.size : Int)) ∧
 bsp (decide (x_1 < x) && at8 s x_1.toNat == 33)
 (((∃ (u : Value), w1_1.cell? (Addr.mk n_1 0 none) = some u) ∧
 w1_1.frozen? (Addr.mk n_1 0 none) = false) ∧
 ∀ (w1 : World),
 PutB w1_1 n_1 0 [Value.int IntKind.i64 2] w1 →
 J [Value.int IntKind.i64 (IntKind.i64.wrap (x_1 + 1))] w1)
 (gimp (decide (x_1 < x)) (0 ≤ x_1 ∧ x_1 < (↑s.size : Int)) ∧
 bsp (decide (x_1 < x) && at8 s x_1.toNat == 64)
 (((∃ (u : Value), w1_1.cell? (Addr.mk n_1 0 none) = some u) ∧
 w1_1.frozen? (Addr.mk n_1 0 none) = false) ∧
 ∀ (w1 : World),
 PutB w1_1 n_1 0 [Value.int IntKind.i64 3] w1 →
 J [Value.int IntKind.i64 (IntKind.i64.wrap (x_1 + 1))] w1)
 (J [Value.int IntKind.i64 x_1] w1_1))) ∧
 ∀ (x_2 : Int) (w'_1 : World),
 J [Value.int IntKind.i64 x_2] w'_1 →
 (0 ≤ x_2 ∧ x_2 ≤ x ∧ x ≤ (↑s.size : Int)) ∧
 CallsS Tryz.prog 44 #[Value.string (s.extract x_2.toNat x.toNat)] w'_1
 fun (e : Ending) (w'_2 : World) =>
 ∃ (x_3 : ByteArray),
 ∃ (p_1 : Option Addr),
 ∃ (n_2 : Nat),
 ∃ (c_1 : Nat),
 ∃ (x_4 : Int),
 ∃ (x_5 : Int),
 e =
 Ending.returned
 (Value.tuple
 #[Value.agg #[Value.string x_3, Value.slice p_1 n_2 c_1], Value.int IntKind.i64 x_4,
 Value.int IntKind.i64 x_5]) ∧
 ∀ (n_3 : Nat) (w1 : World),
 NewB w'_2 (Obj.cells #[Value.string (ByteArray.mk #[]), Value.slice none 0 0] 104) n_3 w1 →
 WrL w1 n_3 0 2 ∧
 ∀ (w1_2 : World),
 PutB w1 n_3 0 [Value.string x_3, Value.slice p_1 n_2 c_1] w1_2 →
 bsp (x_5 != 0)
 (R
 (Ending.returned
 (Value.tuple
 #[Value.slice none 0 0, Value.int IntKind.i64 (IntKind.i64.wrap (x_2 + x_4)),
 Value.int IntKind.i64 x_5]))
 w1_2)
 (∃ (x_6 : ByteArray),
 ∃ (p_2 : Option Addr),
 ∃ (n_4 : Nat),
 ∃ (c_2 : Nat),
 AtL w1_2 n_3 0 [Value.string x_6, Value.slice p_2 n_4 c_2] ∧
 WrL w1_2 n_1 (0 + 1) 2 ∧
 ∀ (w1 : World),
 PutB w1_2 n_1 (0 + 1) [Value.string x_6, Value.slice p_2 n_4 c_2] w1 →
 ∃ (x_7 : Int),
 ∃ (x_8 : ByteArray),
 ∃ (p_3 : Option Addr),
 ∃ (n_5 : Nat),
 ∃ (c_3 : Nat),
 AtL w1 n_1 0
 [Value.int IntKind.i64 x_7, Value.string x_8,
 Value.slice p_3 n_5 c_3] ∧
 ∀ (n_6 : Nat) (w1_3 : World),
 NewB w1
 (Obj.cells
 #[Value.int IntKind.i64 x_7, Value.string x_8,
 Value.slice p_3 n_5 c_3]
 106)
 n_6 w1_3 →
 ∃ (base : Nat),
 ∃ (xs : List Value),
 ∃ (news : List Value),
 w1_3.ownsRow base 106 3 (Value.slice p n c) n xs ∧
 news.length = 3 ∧
 SrcP w1_3 (some (Addr.mk n_6 0 none)) news ∧
 n + 1 ≤ 9223372036854775807 ∧
 (n + 1) * 48 ≤ 140737488355328 ∧
 base ≤ w1_3.heap.size ∧
 ∀ (p' : Option Addr) (c' : Nat) (w'_3 : World),
 w'_3.ownsRow base 106 3 (Value.slice p' (n + 1) c') (n + 1)
 (xs ++ news) →
 w1_3.grownBy w'_3 (Value.slice p n c).ownBlock →
 I
 [Value.int IntKind.i64 (IntKind.i64.wrap (x + 1)),
 Value.int IntKind.i64 (IntKind.i64.wrap (x + 1)),
 Value.slice p' (n + 1) c']
 w'_3 ∧
 m
 [Value.int IntKind.i64 (IntKind.i64.wrap (x + 1)),
 Value.int IntKind.i64 (IntKind.i64.wrap (x + 1)),
 Value.slice p' (n + 1) c']
 w'_3 <
 m
 [Value.int IntKind.i64 x, Value.int IntKind.i64 x_1,
 Value.slice p n c]
 w'))))
 (R (Ending.returned (Value.tuple #[Value.slice p n c, Value.int IntKind.i64 0, Value.int IntKind.i64 0])) w'))
theorem vc_rparseList (s : ByteArray) (w : World) (R : Ending → World → Prop) (h : VC_rparseList s w R) : Calls Tryz.prog 20 ([Value.string
    s] : List Value).toArray w R := by
  have e : execR { P := Tryz.prog, loops := [(6, [(7, Ck.int IntKind.i64), (6, Ck.int IntKind.i64), (5, Ck.slice)])], pur := pur1, tails := [], joins := [(19, [(9, Ck.int IntKind.i64)])], boxes := [] } Tryz.f20.results.toList R (Tryz.f20.body.getD .skip) (initF [Value.string
    s] (Tryz.f20.ntmps - ([Value.string s] : List Value).length)) w = VC_rparseList s w R := by kernel_rfl
  have hb : Tryz.f20.body = some (Tryz.f20.body.getD .skip) := by kernel_rfl
  exact calls_of_exec' (P := Tryz.prog) (fn := Tryz.f20) (c := Tryz.f20.body.getD .skip) (args := [Value.string
    s]) (w := w) (R := R) pur1_ok Tryz.func20 hb e h

end Go.Proofs.YtcpjajjocmpkjaaGreatDoor

/- The contract of the reference's ParseList: it agrees with the program's. The text has at most 2^30 bytes. -/
namespace Go.Proofs.YtcpjajjocmpkjaaGreatDoor
open Go.RowKit

/-- An entry of the reference's list, and where its elements lie. -/
abbrev RItA := REnt × Option Addr × Nat
def ritC (x : RItA) : List Value := [.int .i64 x.1.v, .string x.1.t, .slice x.2.1 x.1.rs.length x.2.2]
/-- The reference's list in the memory. -/
structure RLst (base : Nat) (w : World) (p : Option Addr) (n c : Nat) (L : List RItA) : Prop where
  len : n = L.length
  row : w.ownsRow base 106 3 (.slice p n c) n (L.flatMap ritC)
  els : ∀ x ∈ L, w.ownsRow base 134 129 (.slice x.2.1 x.1.rs.length x.2.2) x.1.rs.length (rows x.1.rs)
theorem RLst.kp {base : Nat} {w w' : World} {p : Option Addr} {n c : Nat} {L : List RItA} (h : RLst base w p n c L) (hk : K0 w w') : RLst base w' p n c L :=
  ⟨h.len, owns_kp h.row hk (fun _ _ h => h), fun x hx => owns_kp (h.els x hx) hk (fun _ _ h => h)⟩
theorem hp1 (x : ByteArray) (c : UInt8) : Lib.hasPrefix x.data.toList [c] = (decide (0 < x.size) && at8 x 0 == (c.toNat : Int)) := by
  have hl : x.data.toList.length = x.size := x.data.length_toList
  cases hd : x.data.toList with
  | nil =>
    rw [hd] at hl
    have : ¬ 0 < x.size := by simp at hl; omega
    simp [this, Lib.hasPrefix]
  | cons a r =>
    have h0 : 0 < x.size := by rw [hd] at hl; simp at hl; omega
    have g := at8_byte h0
    rw [hd] at g
    simp at g
    have hb := at8_bd x 0
    have ea : at8 x 0 = (a.toNat : Int) := by
      rw [g, UInt8.toNat_ofNat']
      omega
    rw [ea]
    simp only [Lib.hasPrefix, List.isPrefixOf, h0, decide_true, Bool.true_and, Bool.and_true]
    rw [Bool.eq_iff_iff]
    simp only [beq_iff_eq]
    constructor
    · rintro rfl; rfl
    · intro h
      apply UInt8.toNat_inj.1
      omega
theorem ext_ext (s : ByteArray) (a b i j : Nat) (h : a + j ≤ b) : (s.extract a b).extract i j = s.extract (a + i) (a + j) := by
  rw [ByteArray.extract_extract]
  congr 1
  omega

set_option maxHeartbeats 1000000 in
theorem rparseList_any (s : ByteArray) (w : World) (hs : s.size ≤ 1073741824) : Calls Tryz.prog 20 #[.string s] w fun e w' => K0 w w' ∧
    match listR s with
    | .inl es => ∃ p n c L, e = .returned (.tuple #[.slice p n c, .int .i64 0, .int .i64 0]) ∧ RLst w.heap.size w' p n c L ∧ RelEnts es (L.map (·.1))
    | .inr (o, x) => e = .returned (.tuple #[.slice none 0 0, .int .i64 o, .int .i64 x]) := by
  refine vc_rparseList s w _ ?_
  unfold VC_rparseList
  rw [toList_nil]
  refine bsp_intro (fun h0 => ⟨.refl _ _, ?_⟩) (fun h0 => ?_)
  · have h0 : s.size = 0 := by simpa using h0
    unfold listR; rw [if_pos h0]
  have h0 : ¬ s.size = 0 := by simpa using h0
  have hR : listR s = entsS (partsS s) 0 [] := by unfold listR; rw [if_neg h0]
  rw [hR]
  generalize hG : entsS (partsS s) 0 [] = G
  refine ⟨fun vs w' => ∃ (i fr : Nat) (acc : List Ent) (p : Option Addr) (n c : Nat) (L : List RItA), vs = [.int .i64 i, .int .i64 fr, .slice p n c] ∧ i ≤ s.size + 1 ∧ RelEnts acc (L.map (·.1)) ∧ RLst w.heap.size w' p n c L ∧ K0 w w' ∧ acc.length ≤ 64 ∧
      ((i ≤ s.size ∧ fr ≤ i ∧ entsS (partsS (s.extract fr s.size)) fr acc = G ∧ ∀ j, fr ≤ j → j < i → at8 s j ≠ 44) ∨ (i = s.size + 1 ∧ G = .inl acc)),
    fun vs _ => (match vs with | .int _ x :: _ => s.size + 1 - x.toNat | _ => 0), ⟨0, 0, [], none, 0, 0, [], rfl, by omega, ⟨rfl, fun j e r h _ => by simp at h⟩, ⟨rfl, World.ownsRow_nil _ _ _ _, fun x hx => by cases hx⟩, .refl _ _, by simp, .inl ⟨by omega, by omega, ?_, fun j _ hj => by omega⟩⟩, ?_⟩
  · rw [show s.extract 0 s.size = s from ByteArray.extract_zero_size]; exact hG
  rintro x x1 p n c w' ⟨i, fr, acc, p', n', c', L, hv, hi, hrel, hL, hk, h64, hst⟩
  simp only [List.cons.injEq, Value.int.injEq, Value.slice.injEq, true_and, and_true] at hv
  obtain ⟨rfl, rfl, rfl, rfl, rfl⟩ := hv
  have hnl : n = acc.length := by rw [hL.len, hrel.len, List.length_map]
  refine bsp_intro (fun hle => ?_) (fun hgt => ?_)
  · have hle : i ≤ s.size := by simp at hle; omega
    obtain ⟨_, hfr, hE, hno⟩ : i ≤ s.size ∧ fr ≤ i ∧ entsS (partsS (s.extract fr s.size)) fr acc = G ∧ ∀ j, fr ≤ j → j < i → at8 s j ≠ 44 := by
      rcases hst with h | h
      · exact h
      · omega
    have ei : (i : Int).toNat = i := by omega
    rw [ei, wr64 (x := (i : Int) + 1) (by omega) (by omega)]
    refine ⟨gimp_intro fun h => ⟨by omega, by simpa using h⟩, bsp_intro (fun hc => ?_) (fun hc => ?_)⟩
    · have hlt : i < s.size := by simp at hc; omega
      have h44 : at8 s i ≠ 44 := by simp at hc; exact hc.2
      refine ⟨⟨i + 1, fr, acc, p, n, c, L, by congr 2, by omega, hrel, hL, hk, h64, .inl ⟨by omega, by omega, hE, fun j h1 h2 => ?_⟩⟩, by simp only; omega⟩
      by_cases e : j = i
      · rw [e]; exact h44
      · exact hno j h1 (by omega)
    -- a part ends here
    have hrsz : (s.extract fr s.size).size = s.size - fr := by rw [ByteArray.size_extract]; omega
    obtain ⟨ps, hps, hnx⟩ : ∃ ps, partsS (s.extract fr s.size) = s.extract fr i :: ps ∧ ∀ acc', entsS ps ((i : Int) + 1) acc' = (if i < s.size then entsS (partsS (s.extract (i + 1) s.size)) ((i : Int) + 1) acc' else .inl acc') := by
      by_cases hlt : i < s.size
      · have h44 : at8 s i = 44 := by
          have : decide ((i : Int) < (s.size : Int)) = true := by simp; omega
          rw [this] at hc
          simpa using hc
        refine ⟨_, ?_, fun acc' => (if_pos hlt).symm⟩
        have := parts_hit (s := s.extract fr s.size) (i := i - fr) (by omega) (by rw [at8_extract s fr s.size (i - fr) (by omega) (Nat.le_refl _), show fr + (i - fr) = i by omega]; exact h44) (fun j hj => by
          rw [at8_extract s fr s.size j (by omega) (Nat.le_refl _)]; exact hno _ (by omega) (by omega))
        rw [this, ext_ext s fr s.size 0 (i - fr) (by omega), hrsz, ext_ext s fr s.size (i - fr + 1) (s.size - fr) (by omega)]
        rw [show fr + 0 = fr by omega, show fr + (i - fr) = i by omega, show fr + (i - fr + 1) = i + 1 by omega, show fr + (s.size - fr) = s.size by omega]
      · have e : i = s.size := by omega
        refine ⟨[], ?_, fun acc' => by rw [if_neg hlt]; rfl⟩
        rw [parts_miss (fun j hj => by rw [at8_extract s fr s.size j (by omega) (Nat.le_refl _)]; exact hno _ (by omega) (by omega)), e]
    rw [hps] at hE
    generalize hpt : s.extract fr i = part at *
    have psz : part.size = i - fr := by rw [← hpt, ByteArray.size_extract]; omega
    have pat : 0 < part.size → at8 part 0 = at8 s fr := fun h => by rw [← hpt, at8_extract s fr i 0 (by omega) hle]; rfl
    unfold entsS at hE
    refine bsp_intro (fun hn => ⟨hk, ?_⟩) (fun hn => ?_)
    · have hn : acc.length = 64 := by simp at hn; omega
      rw [if_pos hn] at hE
      rw [← hE]
    have hn : ¬ acc.length = 64 := by simp at hn; omega
    rw [if_neg hn] at hE
    intro n1 w1 hn1
    refine ⟨WrL_block hn1.block (by simp), fun w2 hp2 => ?_⟩
    have b2 : w2.heap[n1]? = some (.cells #[.int .i64 1, .string ⟨#[]⟩, .slice none 0 0] 106 (0, 0)) := hp2.full hn1.block rfl
    have g1 : w'.heap.size ≤ n1 := hn1.ge
    have k2 : K0 w' w2 := (hn1.kp _).fresh hp2.kp (fun i hi e => by omega)
    have efr : (fr : Int).toNat = fr := by omega
    rw [efr, wr64 (x := (fr : Int) + 1) (by omega) (by omega)]
    -- the mark of a part
    have h33 : (decide ((fr : Int) < (i : Int)) && at8 s fr == 33) = Lib.hasPrefix part.data.toList [33] := by
      rw [hp1]
      by_cases h : fr < i
      · have h1 : decide ((fr : Int) < (i : Int)) = true := by simp; omega
        have h2 : decide (0 < part.size) = true := decide_eq_true (by omega)
        rw [h1, h2, pat (by omega)]; rfl
      · have h1 : decide ((fr : Int) < (i : Int)) = false := by simp; omega
        have h2 : decide (0 < part.size) = false := decide_eq_false (by omega)
        rw [h1, h2]; rfl
    have h64' : (decide ((fr : Int) < (i : Int)) && at8 s fr == 64) = Lib.hasPrefix part.data.toList [64] := by
      rw [hp1]
      by_cases h : fr < i
      · have h1 : decide ((fr : Int) < (i : Int)) = true := by simp; omega
        have h2 : decide (0 < part.size) = true := decide_eq_true (by omega)
        rw [h1, h2, pat (by omega)]; rfl
      · have h1 : decide ((fr : Int) < (i : Int)) = false := by simp; omega
        have h2 : decide (0 < part.size) = false := decide_eq_false (by omega)
        rw [h1, h2]; rfl
    rw [h33, h64']
    have hgi : gimp (decide ((fr : Int) < (i : Int))) (0 ≤ (fr : Int) ∧ (fr : Int) < (s.size : Int)) := gimp_intro fun h => ⟨by omega, by simp at h; omega⟩
    refine ⟨fun vs wx => ∃ d : Nat, vs = [.int .i64 ((fr + d : Nat) : Int)] ∧ fr + d ≤ i ∧ bareS part = s.extract (fr + d) i ∧ wx.heap[n1]? = some (.cells #[.int .i64 (markI part), .string ⟨#[]⟩, .slice none 0 0] 106 (0, 0)) ∧ K0 w' wx, ?_, ?_⟩
    · have one : ∀ (m : Int) (wx : World), (Lib.hasPrefix part.data.toList [33] = true ∨ Lib.hasPrefix part.data.toList [64] = true) → markI part = m → PutB w2 n1 0 [.int .i64 m] wx → ∃ d : Nat, [Value.int .i64 ((fr : Int) + 1)] = [Value.int .i64 ((fr + d : Nat) : Int)] ∧ fr + d ≤ i ∧ bareS part = s.extract (fr + d) i ∧ wx.heap[n1]? = some (.cells #[.int .i64 (markI part), .string ⟨#[]⟩, .slice none 0 0] 106 (0, 0)) ∧ K0 w' wx := fun m wx hor hm hp => by
        have hpos : 1 ≤ part.size := by rcases hor with h | h <;> exact hasPrefix1 h
        refine ⟨1, by congr 2, by omega, ?_, ?_, k2.fresh hp.kp (fun i hi e => by omega)⟩
        · unfold bareS
          rw [if_neg (by
            unfold markI
            rcases hor with h | h
            · rw [if_pos h]; decide
            · split <;> decide)]
          rw [psz, ← hpt, ext_ext s fr i 1 (i - fr) (by omega), show fr + (i - fr) = i by omega]
        · rw [hm]; exact hp.block b2
      refine ⟨hgi, bsp_intro (fun h => ⟨cell_wr b2 (by simp), fun w3 hp3 => one 2 w3 (.inl h) (by unfold markI; rw [if_pos h]) hp3⟩) (fun h => ⟨hgi, bsp_intro (fun h' => ⟨cell_wr b2 (by simp), fun w3 hp3 => one 3 w3 (.inr h') (by unfold markI; rw [if_neg (by rw [h]; decide), if_pos h']) hp3⟩) (fun h' => ?_)⟩)⟩
      have hm : markI part = 1 := by unfold markI; rw [if_neg (by rw [h]; decide), if_neg (by rw [h']; decide)]
      refine ⟨0, by congr 2, by omega, ?_, ?_, k2⟩
      · unfold bareS; rw [if_pos hm, ← hpt]; rfl
      · rw [hm]; exact b2
    rintro x2 w3 ⟨d, hv, hd, hbare, b3, k3⟩
    have hv : x2 = ((fr + d : Nat) : Int) := by simpa using hv
    subst hv
    have ed : (((fr + d : Nat) : Int)).toNat = fr + d := Int.toNat_natCast _
    rw [ed, ← hbare]
    refine ⟨⟨by omega, by omega, by omega⟩, ⟨(rcompile_any (bareS part) w3).mono fun e w4 ⟨hk4, he⟩ => ?_⟩⟩
    have bsz : (bareS part).size = i - (fr + d) := by rw [hbare, ByteArray.size_extract]; omega
    have b4 := hk4.blk b3 (fun h => h)
    cases hc : compileR (bareS part) with
    | inr oe =>
      obtain ⟨o, er⟩ := oe
      rw [hc] at he hE
      have hoe := compileR_off _ _ _ hc
      refine ⟨_, _, _, _, _, _, he, fun n3 w5 hn3 => ⟨WrL_block hn3.block (by simp), fun w6 hp6 => bsp_intro (fun _ => ⟨?_, ?_⟩) (fun h => ?_)⟩⟩
      · exact ((hk.trans k3).trans (hk4.trans (hn3.kp _))).fresh hp6.kp (fun i hi e => by have := ((hk.trans k3).trans hk4).size; have := hn3.ge; omega)
      · rw [← hE]
        simp only
        rw [wr64 (by omega) (by omega), psz, bsz, show (fr : Int) + ((i - fr : Nat) : Int) - ((i - (fr + d) : Nat) : Int) + (o : Int) = ((fr + d : Nat) : Int) + (o : Int) by omega]
      · exfalso
        apply hoe.2
        simpa using h
    | inl els =>
      rw [hc] at he hE
      obtain ⟨q, cq, rs, he, hrow, hre⟩ := he
      refine ⟨_, _, _, _, _, _, he, fun n3 w5 hn3 => ⟨WrL_block hn3.block (by simp), fun w6 hp6 => bsp_intro (fun h => absurd h (by decide)) (fun _ => ?_)⟩⟩
      have k6 : K0 w4 w6 := (hn3.kp (fun _ => False)).fresh hp6.kp (fun i hi e => by have := hn3.ge; omega)
      have c6 := hp6.full hn3.block rfl
      have b6 := k6.blk b4 (fun h => h)
      refine ⟨_, _, _, _, AtL_block c6 rfl, WrL_block b6 (by simp), fun w7 hp7 => ?_⟩
      have b7 : w7.heap[n1]? = some (.cells #[.int .i64 (markI part), .string (bareS part), .slice q rs.length cq] 106 (0, 0)) := by
        have := hp7.block b6
        simpa [putL] using this
      have k7 : K0 w' w7 := ((k3.trans hk4).trans k6).fresh hp7.kp (fun i hi e => by omega)
      refine ⟨_, _, _, _, _, AtL_block b7 rfl, fun n6 w8 hn8 => ?_⟩
      have hL7 := hL.kp k7
      have hr7 : w7.ownsRow w.heap.size 134 129 (.slice q rs.length cq) rs.length (rows rs) := by
        have h4 : w4.ownsRow w.heap.size 134 129 (.slice q rs.length cq) rs.length (rows rs) := ⟨hrow.1, hrow.2.imp id fun ⟨g, cap, cur, a1, a2, a3⟩ => ⟨g, cap, cur, a1, by have := (hk.trans k3).size; omega, a3⟩⟩
        refine owns_kp (owns_kp h4 k6 (fun _ _ h => h)) hp7.kp (fun k hk e => ?_)
        obtain ⟨cc, hcc⟩ := own_type (owns_kp h4 k6 (fun _ _ h => h)) hk
        rw [e, b6] at hcc
        simp at hcc
      refine app1 hL7.row (hk.trans k7).size hn8 rfl (fun u hu => by simp at hu; rcases hu with rfl | rfl | rfl <;> rfl) (by omega) (by omega) (fun p9 c9 w9 ho9 hk9 _ => ?_)
      have keepE : ∀ (y : RItA), w7.ownsRow w.heap.size 134 129 (.slice y.2.1 y.1.rs.length y.2.2) y.1.rs.length (rows y.1.rs) → w9.ownsRow w.heap.size 134 129 (.slice y.2.1 y.1.rs.length y.2.2) y.1.rs.length (rows y.1.rs) := fun y hy =>
        owns_kp hy hk9 (fun k hk e => by
          obtain ⟨c1, h1⟩ := own_type hy hk
          obtain ⟨c2, h2⟩ := own_type hL7.row e
          rw [h1] at h2
          simp at h2)
      refine ⟨⟨i + 1, i + 1, acc ++ [⟨bareS part, els, markI part⟩], p9, n + 1, c9, L ++ [(⟨bareS part, rs, markI part⟩, q, cq)], by congr 2, by omega, ?_, ⟨?_, ?_, ?_⟩, ?_, ?_, ?_⟩, by simp only; omega⟩
      · rw [List.map_append]
        exact hrel.snoc ⟨rfl, rfl, hre⟩
      · rw [List.length_append, ← hL.len]; rfl
      · rw [List.flatMap_append]; exact ho9
      · intro y hy
        rcases List.mem_append.1 hy with h | h
        · exact keepE y (hL7.els y h)
        · simp at h; subst h; exact keepE _ hr7
      · exact (hk.trans k7).fresh hk9 (fun i hi e => by have := own_ge hL7.row e; omega)
      · simp; omega
      · have hE' : entsS ps ((i : Int) + 1) (acc ++ [⟨bareS part, els, markI part⟩]) = G := by
          rw [← hE]
          simp only
          congr 1
          rw [psz]; omega
        rw [hnx] at hE'
        by_cases hlt : i < s.size
        · rw [if_pos hlt] at hE'
          exact .inl ⟨by omega, by omega, hE', fun j h1 h2 => by omega⟩
        · rw [if_neg hlt] at hE'
          exact .inr ⟨by omega, hE'.symm⟩
  · have hgt : ¬ i ≤ s.size := by simp at hgt; omega
    rcases hst with h | ⟨_, hGa⟩
    · omega
    refine ⟨hk, ?_⟩
    rw [hGa]
    exact ⟨p, n, c, L, rfl, hL, hrel⟩

end Go.Proofs.YtcpjajjocmpkjaaGreatDoor

/- The formulas of functions by the symbolic evaluator, and that each gives the call's contract. Written by a program (gen.py). No condition. -/
namespace Go.Proofs.YtcpjajjocmpkjaaGreatDoor
set_option maxRecDepth 100000
set_option linter.unusedVariables false

def VC_has (p : Option Addr) (n : Nat) (c : Nat) (s : ByteArray) (w : World) (R : Ending → World → Prop) : Prop :=
 ∃ (I : List Value → World → Prop),
 ∃ (m : List Value → World → Nat),
 I [Value.int IntKind.i64 0] w ∧
 ∀ (x : Int) (w' : World),
 I [Value.int IntKind.i64 x] w' →
 bsp (decide (x < (↑n : Int)))
 (nn true p fun (b o : Nat) =>
 (0 ≤ x ∧ x < (↑n : Int)) ∧
 ∃ (x_1 : ByteArray),
 w'.cell? (Addr.mk b (o + x.toNat) none) = some (Value.string x_1) ∧
 bsp (x_1.toList == s.toList) (R (Ending.returned (Value.bool true)) w')
 (I [Value.int IntKind.i64 (IntKind.i64.wrap (x + 1))] w' ∧
 m [Value.int IntKind.i64 (IntKind.i64.wrap (x + 1))] w' < m [Value.int IntKind.i64 x] w'))
 (R (Ending.returned (Value.bool false)) w')
theorem vc_has (p : Option Addr) (n : Nat) (c : Nat) (s : ByteArray) (w : World) (R : Ending → World → Prop) (h : VC_has p n c s w R) : Calls Tryz.prog 22 ([Value.slice
    p n c,
  Value.string s] : List Value).toArray w R := by
  have e : execR { P := Tryz.prog, loops := [(2, [(5, Ck.int IntKind.i64)])], pur := pur1, tails := [], joins := [], boxes := [] } Tryz.f22.results.toList R (Tryz.f22.body.getD .skip) (initF [Value.slice
    p n c,
  Value.string
    s] (Tryz.f22.ntmps - ([Value.slice p n c,
  Value.string s] : List Value).length)) w = VC_has p n c s w R := by kernel_rfl
  have hb : Tryz.f22.body = some (Tryz.f22.body.getD .skip) := by kernel_rfl
  exact calls_of_exec' (P := Tryz.prog) (fn := Tryz.f22) (c := Tryz.f22.body.getD .skip) (args := [Value.slice p n c,
  Value.string s]) (w := w) (R := R) pur1_ok Tryz.func22 hb e h

def VC_rcheck (nb : ByteArray) (ps : ByteArray) (mb : Int) (dl : Int) (p : Option Addr) (n : Nat) (c : Nat) (w : World) (R : Ending → World → Prop) : Prop :=
 ∀ (n_1 : Nat) (w1 : World),
 NewB w
 (Obj.cells #[Value.string nb, Value.string ps, Value.int IntKind.i64 mb, Value.int IntKind.i64 dl, Value.slice p n c]
 24)
 n_1 w1 →
 ∃ (x : ByteArray),
 w1.cell? (Addr.mk n_1 0 none) = some (Value.string x) ∧
 CallsS Tryz.prog 19 #[Value.string x] w1 fun (e : Ending) (w' : World) =>
 ∃ (x : Int),
 ∃ (x_1 : Int),
 e = Ending.returned (Value.tuple #[Value.int IntKind.i64 x, Value.int IntKind.i64 x_1]) ∧
 bsp (x_1 != 0) (R (Ending.returned (Value.int IntKind.i64 x_1)) w')
 (∃ (x : ByteArray),
 w'.cell? (Addr.mk n_1 (0 + 1) none) = some (Value.string x) ∧
 CallsS Tryz.prog 20 #[Value.string x] w' fun (e : Ending) (w' : World) =>
 ∃ (p : Option Addr),
 ∃ (n : Nat),
 ∃ (c : Nat),
 ∃ (x : Int),
 ∃ (x_2 : Int),
 e =
 Ending.returned
 (Value.tuple #[Value.slice p n c, Value.int IntKind.i64 x, Value.int IntKind.i64 x_2]) ∧
 bsp (x_2 != 0) (R (Ending.returned (Value.int IntKind.i64 x_2)) w')
 (∃ (x : Int),
 w'.cell? (Addr.mk n_1 (0 + 2) none) = some (Value.int IntKind.i64 x) ∧
 ∃ (x_3 : Int),
 gimp (!decide (x < 0)) (w'.cell? (Addr.mk n_1 (0 + 2) none) = some (Value.int IntKind.i64 x_3)) ∧
 ∃ (x_4 : Int),
 gimp (!(decide (x < 0) || decide (x_3 > 65536)))
 (w'.cell? (Addr.mk n_1 (0 + 3) none) = some (Value.int IntKind.i64 x_4)) ∧
 ∃ (x_5 : Int),
 gimp (!(decide (x < 0) || decide (x_3 > 65536) || decide (x_4 < 0)))
 (w'.cell? (Addr.mk n_1 (0 + 3) none) = some (Value.int IntKind.i64 x_5)) ∧
 bsp (decide (x < 0) || decide (x_3 > 65536) || decide (x_4 < 0) || decide (x_5 > 20160))
 (R (Ending.returned (Value.int IntKind.i64 2)) w')
 (∃ (p : Option Addr),
 ∃ (n : Nat),
 ∃ (c : Nat),
 w'.cell? (Addr.mk n_1 (0 + 4) none) = some (Value.slice p n c) ∧
 bsp (decide ((↑n : Int) > 8)) (R (Ending.returned (Value.int IntKind.i64 9)) w')
 (∃ (I : List Value → World → Prop),
 ∃ (m : List Value → World → Nat),
 I [Value.int IntKind.i64 0] w' ∧
 ∀ (x : Int) (w' : World),
 I [Value.int IntKind.i64 x] w' →
 ∃ (p : Option Addr),
 ∃ (n : Nat),
 ∃ (c : Nat),
 w'.cell? (Addr.mk n_1 (0 + 4) none) = some (Value.slice p n c) ∧
 bsp (decide (x < (↑n : Int)))
 (∃ (p : Option Addr),
 ∃ (n : Nat),
 ∃ (c : Nat),
 w'.cell? (Addr.mk n_1 (0 + 4) none) = some (Value.slice p n c) ∧
 nn true p fun (b o : Nat) =>
 (0 ≤ x ∧ x < (↑n : Int)) ∧
 ∃ (x_6 : ByteArray),
 w'.cell? (Addr.mk b (o + x.toNat) none) = some (Value.string x_6) ∧
 CallsS Tryz.prog 21 #[Value.string x_6] w'
 fun (e : Ending) (w'_1 : World) =>
 ∃ (x_7 : Bool),
 e = Ending.returned (Value.bool x_7) ∧
 bsp (!x_7) (R (Ending.returned (Value.int IntKind.i64 12)) w'_1)
 (∃ (p : Option Addr),
 ∃ (n : Nat),
 ∃ (c : Nat),
 w'_1.drew.cell? (Addr.mk n_1 (0 + 4) none) =
 some (Value.slice p n c) ∧
 (0 ≤ x ∧ x ≤ (↑c : Int)) ∧
 ∃ (p_1 : Option Addr),
 ∃ (n : Nat),
 ∃ (c_1 : Nat),
 w'_1.drew.cell? (Addr.mk n_1 (0 + 4) none) =
 some (Value.slice p_1 n c_1) ∧
 nn true p_1 fun (b o : Nat) =>
 (0 ≤ x ∧ x < (↑n : Int)) ∧
 ∃ (x_8 : ByteArray),
 w'_1.drew.cell? (Addr.mk b (o + x.toNat) none) =
 some (Value.string x_8) ∧
 CallsS Tryz.prog 22
 #[Value.slice p x.toNat c, Value.string x_8]
 w'_1.drew fun (e : Ending) (w'_2 : World) =>
 ∃ (x_9 : Bool),
 e = Ending.returned (Value.bool x_9) ∧
 bsp x_9
 (R (Ending.returned (Value.int IntKind.i64 7))
 w'_2)
 (I
 [Value.int IntKind.i64
 (IntKind.i64.wrap (x + 1))]
 w'_2 ∧
 m
 [Value.int IntKind.i64
 (IntKind.i64.wrap (x + 1))]
 w'_2 <
 m [Value.int IntKind.i64 x] w')))
 (R (Ending.returned (Value.int IntKind.i64 0)) w')))))
theorem vc_rcheck (nb : ByteArray) (ps : ByteArray) (mb : Int) (dl : Int) (p : Option Addr) (n : Nat) (c : Nat) (w : World) (R : Ending → World → Prop) (h : VC_rcheck nb ps mb dl p n c w R) : Calls Tryz.prog 7 ([Value.agg
    #[Value.string nb, Value.string ps, Value.int IntKind.i64 mb, Value.int IntKind.i64 dl,
      Value.slice p n c]] : List Value).toArray w R := by
  have e : execR { P := Tryz.prog, loops := [(12, [(8, Ck.int IntKind.i64)])], pur := pur1, tails := [(16, 9)], joins := [], boxes := [] } Tryz.f7.results.toList R (Tryz.f7.body.getD .skip) (initF [Value.agg
    #[Value.string nb, Value.string ps, Value.int IntKind.i64 mb, Value.int IntKind.i64 dl,
      Value.slice p n
        c]] (Tryz.f7.ntmps - ([Value.agg
    #[Value.string nb, Value.string ps, Value.int IntKind.i64 mb, Value.int IntKind.i64 dl,
      Value.slice p n c]] : List Value).length)) w = VC_rcheck nb ps mb dl p n c w R := by kernel_rfl
  have hb : Tryz.f7.body = some (Tryz.f7.body.getD .skip) := by kernel_rfl
  exact calls_of_exec' (P := Tryz.prog) (fn := Tryz.f7) (c := Tryz.f7.body.getD .skip) (args := [Value.agg
    #[Value.string nb, Value.string ps, Value.int IntKind.i64 mb, Value.int IntKind.i64 dl,
      Value.slice p n c]]) (w := w) (R := R) pur1_ok Tryz.func7 hb e h

def VC_rreason (nb : ByteArray) (ps : ByteArray) (mb : Int) (dl : Int) (p : Option Addr) (n : Nat) (c : Nat) (a : Array Value) (w : World) (R : Ending → World → Prop) : Prop :=
 ∀ (n_1 : Nat) (w1 : World),
 NewB w
 (Obj.cells #[Value.string nb, Value.string ps, Value.int IntKind.i64 mb, Value.int IntKind.i64 dl, Value.slice p n c]
 24)
 n_1 w1 →
 ∀ (n : Nat) (w1_1 : World),
 NewB w1 (Obj.cells a 70) n w1_1 →
 ∃ (x : ByteArray),
 w1_1.cell? (Addr.mk n (0 + 36) none) = some (Value.string x) ∧
 ∃ (x_1 : ByteArray),
 w1_1.cell? (Addr.mk n_1 0 none) = some (Value.string x_1) ∧
 bsp (x.toList == x_1.toList) (R (Ending.returned (Value.int IntKind.i64 1)) w1_1)
 (∃ (x : Bool),
 w1_1.cell? (Addr.mk n (0 + 35) none) = some (Value.bool x) ∧
 bsp x (R (Ending.returned (Value.int IntKind.i64 0)) w1_1)
 (∃ (x : ByteArray),
 w1_1.cell? (Addr.mk n_1 (0 + 1) none) = some (Value.string x) ∧
 CallsS Tryz.prog 20 #[Value.string x] w1_1 fun (e : Ending) (w' : World) =>
 ∃ (p : Option Addr),
 ∃ (n_2 : Nat),
 ∃ (c : Nat),
 ∃ (x : Int),
 ∃ (x_2 : Int),
 e =
 Ending.returned
 (Value.tuple #[Value.slice p n_2 c, Value.int IntKind.i64 x, Value.int IntKind.i64 x_2]) ∧
 ∃ (p_1 : Option Addr),
 ∃ (n_3 : Nat),
 ∃ (c_1 : Nat),
 w'.cell? (Addr.mk n (0 + 32) none) = some (Value.slice p_1 n_3 c_1) ∧
 CallsS Tryz.prog 49 #[Value.slice p n_2 c, Value.slice p_1 n_3 c_1] w'
 fun (e : Ending) (w' : World) =>
 ∃ (x : Bool),
 e = Ending.returned (Value.bool x) ∧
 bsp (!x) (R (Ending.returned (Value.int IntKind.i64 2)) w')
 (∃ (x : Int),
 w'.cell? (Addr.mk n_1 (0 + 2) none) = some (Value.int IntKind.i64 x) ∧
 ∃ (x_3 : Int),
 gimp (x != 0) (w'.cell? (Addr.mk n_1 (0 + 2) none) = some (Value.int IntKind.i64 x_3)) ∧
 ∃ (x_4 : Int),
 gimp (x != 0)
 (w'.cell? (Addr.mk n (0 + 34) none) = some (Value.int IntKind.i64 x_4)) ∧
 bsp (x != 0 && decide (x_3 < x_4)) (R (Ending.returned (Value.int IntKind.i64 3)) w')
 (∃ (p : Option Addr),
 ∃ (n_4 : Nat),
 ∃ (c : Nat),
 w'.cell? (Addr.mk n_1 (0 + 4) none) = some (Value.slice p n_4 c) ∧
 ∃ (x : ByteArray),
 gimp (decide ((↑n_4 : Int) > 0))
 (w'.cell? (Addr.mk n (0 + 33) none) = some (Value.string x)) ∧
 ∃ (p : Option Addr),
 ∃ (n_5 : Nat),
 ∃ (c : Nat),
 gimp (decide ((↑n_4 : Int) > 0) && !x.toList == [])
 (w'.cell? (Addr.mk n_1 (0 + 4) none) = some (Value.slice p n_5 c)) ∧
 ∃ (x_5 : ByteArray),
 gimp (decide ((↑n_4 : Int) > 0) && !x.toList == [])
 (w'.cell? (Addr.mk n (0 + 33) none) = some (Value.string x_5)) ∧
 bsp (decide ((↑n_4 : Int) > 0) && !x.toList == [])
 (CallsS Tryz.prog 22 #[Value.slice p n_5 c, Value.string x_5] w'
 fun (e : Ending) (w' : World) =>
 ∃ (x : Bool),
 e = Ending.returned (Value.bool x) ∧
 bsp (true && !x) (R (Ending.returned (Value.int IntKind.i64 4)) w')
 (R (Ending.returned (Value.int IntKind.i64 0)) w'))
 (R (Ending.returned (Value.int IntKind.i64 0)) w')))))
theorem vc_rreason (nb : ByteArray) (ps : ByteArray) (mb : Int) (dl : Int) (p : Option Addr) (n : Nat) (c : Nat) (a : Array Value) (w : World) (R : Ending → World → Prop) (h : VC_rreason nb ps mb dl p n c a w R) : Calls Tryz.prog 29 ([Value.agg
    #[Value.string nb, Value.string ps, Value.int IntKind.i64 mb, Value.int IntKind.i64 dl, Value.slice p n c],
  Value.agg a] : List Value).toArray w R := by
  have e : execR { P := Tryz.prog, loops := [], pur := pur1, tails := [], joins := [], boxes := [] } Tryz.f29.results.toList R (Tryz.f29.body.getD .skip) (initF [Value.agg
    #[Value.string nb, Value.string ps, Value.int IntKind.i64 mb, Value.int IntKind.i64 dl, Value.slice p n c],
  Value.agg
    a] (Tryz.f29.ntmps - ([Value.agg
    #[Value.string nb, Value.string ps, Value.int IntKind.i64 mb, Value.int IntKind.i64 dl, Value.slice p n c],
  Value.agg a] : List Value).length)) w = VC_rreason nb ps mb dl p n c a w R := by kernel_rfl
  have hb : Tryz.f29.body = some (Tryz.f29.body.getD .skip) := by kernel_rfl
  exact calls_of_exec' (P := Tryz.prog) (fn := Tryz.f29) (c := Tryz.f29.body.getD .skip) (args := [Value.agg
    #[Value.string nb, Value.string ps, Value.int IntKind.i64 mb, Value.int IntKind.i64 dl, Value.slice p n c],
  Value.agg a]) (w := w) (R := R) pur1_ok Tryz.func29 hb e h

def VC_rdue (nb : ByteArray) (ps : ByteArray) (mb : Int) (dl : Int) (p : Option Addr) (n : Nat) (c : Nat) (a : Array Value) (w : World) (R : Ending → World → Prop) : Prop :=
 ∀ (n_1 : Nat) (w1 : World),
 NewB w
 (Obj.cells #[Value.string nb, Value.string ps, Value.int IntKind.i64 mb, Value.int IntKind.i64 dl, Value.slice p n c]
 24)
 n_1 w1 →
 ∀ (n : Nat) (w1_1 : World),
 NewB w1 (Obj.cells a 70) n w1_1 →
 ∃ (x : Int),
 w1_1.cell? (Addr.mk n (0 + 37) none) = some (Value.int IntKind.i64 x) ∧
 ∃ (x_1 : Int),
 w1_1.cell? (Addr.mk n_1 (0 + 3) none) = some (Value.int IntKind.i64 x_1) ∧
 bsp (decide (x > IntKind.i64.wrap (9223372036854775807 - x_1)))
 (R (Ending.returned (Value.int IntKind.i64 9223372036854775807)) w1_1)
 (∃ (x : Int),
 w1_1.cell? (Addr.mk n (0 + 37) none) = some (Value.int IntKind.i64 x) ∧
 ∃ (x_2 : Int),
 w1_1.cell? (Addr.mk n_1 (0 + 3) none) = some (Value.int IntKind.i64 x_2) ∧
 R (Ending.returned (Value.int IntKind.i64 (IntKind.i64.wrap (x + x_2)))) w1_1)
theorem vc_rdue (nb : ByteArray) (ps : ByteArray) (mb : Int) (dl : Int) (p : Option Addr) (n : Nat) (c : Nat) (a : Array Value) (w : World) (R : Ending → World → Prop) (h : VC_rdue nb ps mb dl p n c a w R) : Calls Tryz.prog 30 ([Value.agg
    #[Value.string nb, Value.string ps, Value.int IntKind.i64 mb, Value.int IntKind.i64 dl, Value.slice p n c],
  Value.agg a] : List Value).toArray w R := by
  have e : execR { P := Tryz.prog, loops := [], pur := pur1, tails := [], joins := [], boxes := [] } Tryz.f30.results.toList R (Tryz.f30.body.getD .skip) (initF [Value.agg
    #[Value.string nb, Value.string ps, Value.int IntKind.i64 mb, Value.int IntKind.i64 dl, Value.slice p n c],
  Value.agg
    a] (Tryz.f30.ntmps - ([Value.agg
    #[Value.string nb, Value.string ps, Value.int IntKind.i64 mb, Value.int IntKind.i64 dl, Value.slice p n c],
  Value.agg a] : List Value).length)) w = VC_rdue nb ps mb dl p n c a w R := by kernel_rfl
  have hb : Tryz.f30.body = some (Tryz.f30.body.getD .skip) := by kernel_rfl
  exact calls_of_exec' (P := Tryz.prog) (fn := Tryz.f30) (c := Tryz.f30.body.getD .skip) (args := [Value.agg
    #[Value.string nb, Value.string ps, Value.int IntKind.i64 mb, Value.int IntKind.i64 dl, Value.slice p n c],
  Value.agg a]) (w := w) (R := R) pur1_ok Tryz.func30 hb e h

def VC_rselects (p : Option Addr) (n : Nat) (c : Nat) (q : Option Addr) (m : Nat) (d : Nat) (w : World) (R : Ending → World → Prop) : Prop :=
 ∃ (I : List Value → World → Prop),
 ∃ (m_1 : List Value → World → Nat),
 I [Value.int IntKind.i64 0, Value.bool false] w ∧
 ∀ (x : Int) (x_1 : Bool) (w' : World),
 I [Value.int IntKind.i64 x, Value.bool x_1] w' →
 bsp (decide (x < (↑m : Int)))
 (nn true q fun (b o : Nat) =>
 (0 ≤ x ∧ x < (↑m : Int)) ∧
 ∃ (x_2 : ByteArray),
 w'.cell? (Addr.mk b (o + x.toNat) none) = some (Value.string x_2) ∧
 CallsS Tryz.prog 72 #[Value.slice p n c, Value.string x_2] w' fun (e : Ending) (w'_1 : World) =>
 ∃ (x_3 : Int),
 e = Ending.returned (Value.int IntKind.i64 x_3) ∧
 bsp (x_3 == 3) (R (Ending.returned (Value.bool false)) w'_1)
 (I [Value.int IntKind.i64 (IntKind.i64.wrap (x + 1)), Value.bool (x_1 || x_3 == 1)] w'_1 ∧
 m_1 [Value.int IntKind.i64 (IntKind.i64.wrap (x + 1)), Value.bool (x_1 || x_3 == 1)] w'_1 <
 m_1 [Value.int IntKind.i64 x, Value.bool x_1] w'))
 (R (Ending.returned (Value.bool x_1)) w')
theorem vc_rselects (p : Option Addr) (n : Nat) (c : Nat) (q : Option Addr) (m : Nat) (d : Nat) (w : World) (R : Ending → World → Prop) (h : VC_rselects p n c q m d w R) : Calls Tryz.prog 49 ([Value.slice
    p n c,
  Value.slice q m d] : List Value).toArray w R := by
  have e : execR { P := Tryz.prog, loops := [(3, [(6, Ck.int IntKind.i64), (5, Ck.bool)])], pur := pur1, tails := [], joins := [], boxes := [] } Tryz.f49.results.toList R (Tryz.f49.body.getD .skip) (initF [Value.slice
    p n c,
  Value.slice q m
    d] (Tryz.f49.ntmps - ([Value.slice p n c,
  Value.slice q m d] : List Value).length)) w = VC_rselects p n c q m d w R := by kernel_rfl
  have hb : Tryz.f49.body = some (Tryz.f49.body.getD .skip) := by kernel_rfl
  exact calls_of_exec' (P := Tryz.prog) (fn := Tryz.f49) (c := Tryz.f49.body.getD .skip) (args := [Value.slice p n c,
  Value.slice q m d]) (w := w) (R := R) pur1_ok Tryz.func49 hb e h

def VC_rverdict (p : Option Addr) (n : Nat) (c : Nat) (s : ByteArray) (w : World) (R : Ending → World → Prop) : Prop :=
 ∃ (I : List Value → World → Prop),
 ∃ (m : List Value → World → Nat),
 I [Value.int IntKind.i64 0, Value.int IntKind.i64 0] w ∧
 ∀ (x x_1 : Int) (w' : World),
 I [Value.int IntKind.i64 x, Value.int IntKind.i64 x_1] w' →
 bsp (decide (x < (↑n : Int)))
 (nn true p fun (b o : Nat) =>
 (0 ≤ x ∧ x < (↑n : Int)) ∧
 ∃ (x_2 : ByteArray),
 ∃ (p_1 : Option Addr),
 ∃ (n_1 : Nat),
 ∃ (c : Nat),
 AtL w' b (o + x.toNat * 3 + 1) [Value.string x_2, Value.slice p_1 n_1 c] ∧
 CallsS Tryz.prog 86 #[Value.agg #[Value.string x_2, Value.slice p_1 n_1 c], Value.string s] w'
 fun (e : Ending) (w'_1 : World) =>
 ∃ (x_3 : Bool),
 e = Ending.returned (Value.bool x_3) ∧
 bsp x_3
 (nn true p fun (b o : Nat) =>
 (0 ≤ x ∧ x < (↑n : Int)) ∧
 ∃ (x_4 : Int),
 w'_1.cell? (Addr.mk b (o + x.toNat * 3) none) = some (Value.int IntKind.i64 x_4) ∧
 I [Value.int IntKind.i64 (IntKind.i64.wrap (x + 1)), Value.int IntKind.i64 x_4] w'_1 ∧
 m [Value.int IntKind.i64 (IntKind.i64.wrap (x + 1)), Value.int IntKind.i64 x_4] w'_1 <
 m [Value.int IntKind.i64 x, Value.int IntKind.i64 x_1] w')
 (I [Value.int IntKind.i64 (IntKind.i64.wrap (x + 1)), Value.int IntKind.i64 x_1] w'_1 ∧
 m [Value.int IntKind.i64 (IntKind.i64.wrap (x + 1)), Value.int IntKind.i64 x_1] w'_1 <
 m [Value.int IntKind.i64 x, Value.int IntKind.i64 x_1] w'))
 (R (Ending.returned (Value.int IntKind.i64 x_1)) w')
theorem vc_rverdict (p : Option Addr) (n : Nat) (c : Nat) (s : ByteArray) (w : World) (R : Ending → World → Prop) (h : VC_rverdict p n c s w R) : Calls Tryz.prog 72 ([Value.slice
    p n c,
  Value.string s] : List Value).toArray w R := by
  have e : execR { P := Tryz.prog, loops := [(3, [(6, Ck.int IntKind.i64), (5, Ck.int IntKind.i64)])], pur := pur1, tails := [], joins := [], boxes := [] } Tryz.f72.results.toList R (Tryz.f72.body.getD .skip) (initF [Value.slice
    p n c,
  Value.string
    s] (Tryz.f72.ntmps - ([Value.slice p n c,
  Value.string s] : List Value).length)) w = VC_rverdict p n c s w R := by kernel_rfl
  have hb : Tryz.f72.body = some (Tryz.f72.body.getD .skip) := by kernel_rfl
  exact calls_of_exec' (P := Tryz.prog) (fn := Tryz.f72) (c := Tryz.f72.body.getD .skip) (args := [Value.slice p n c,
  Value.string s]) (w := w) (R := R) pur1_ok Tryz.func72 hb e h

def VC_rmatch (t : ByteArray) (p : Option Addr) (n : Nat) (c : Nat) (s : ByteArray) (w : World) (R : Ending → World → Prop) : Prop :=
 ∀ (n_1 : Nat) (w1 : World),
 NewB w (Obj.cells #[Value.string t, Value.slice p n c] 104) n_1 w1 →
 ∃ (I : List Value → World → Prop),
 ∃ (m : List Value → World → Nat),
 I [Value.int IntKind.i64 0] w1 ∧
 ∀ (x : Int) (w' : World),
 I [Value.int IntKind.i64 x] w' →
 bsp (decide (x < (↑s.size : Int)))
 ((0 ≤ x ∧ x < (↑s.size : Int)) ∧
 bsp (!charB (at8 s x.toNat)) (R (Ending.returned (Value.bool false)) w')
 (I [Value.int IntKind.i64 (IntKind.i64.wrap (x + 1))] w' ∧
 m [Value.int IntKind.i64 (IntKind.i64.wrap (x + 1))] w' < m [Value.int IntKind.i64 x] w'))
 ((0 ≤ IntKind.i64.wrap ((↑s.size : Int) + 1) ∧
 IntKind.i64.wrap ((↑s.size : Int) + 1) ≤ IntKind.i64.wrap ((↑s.size : Int) + 1) ∧
 (↑1 : Int) * IntKind.i64.wrap ((↑s.size : Int) + 1) ≤ 281474976710656 ∧
 IntKind.i64.wrap ((↑s.size : Int) + 1) ≤ 9223372036854775807) ∧
 ∀ (n : Nat) (w1 : World),
 NewB w' (Obj.cells (madeCells #[Value.bool false] ((IntKind.i64.wrap ((↑s.size : Int) + 1)).toNat * 1)) 4) n
 w1 →
 ((0 : Int) ≤ 0 ∧ 0 < (↑(IntKind.i64.wrap ((↑s.size : Int) + 1)).toNat : Int)) ∧
 ((∃ (u : Value), w1.cell? (Addr.mk n 0 none) = some u) ∧ w1.frozen? (Addr.mk n 0 none) = false) ∧
 ∀ (w1_1 : World),
 PutB w1 n 0 [Value.bool true] w1_1 →
 ∃ (I : List Value → World → Prop),
 ∃ (m : List Value → World → Nat),
 I
 [Value.slice (some (Addr.mk n 0 none)) (IntKind.i64.wrap ((↑s.size : Int) + 1)).toNat
 (IntKind.i64.wrap ((↑s.size : Int) + 1)).toNat,
 Value.int IntKind.i64 0]
 w1_1 ∧
 ∀ (p : Option Addr) (n c : Nat) (x : Int) (w' : World),
 I [Value.slice p n c, Value.int IntKind.i64 x] w' →
 ∃ (p_1 : Option Addr),
 ∃ (n_2 : Nat),
 ∃ (c_1 : Nat),
 w'.cell? (Addr.mk n_1 (0 + 1) none) = some (Value.slice p_1 n_2 c_1) ∧
 bsp (decide (x < (↑n_2 : Int)))
 ((0 ≤ IntKind.i64.wrap ((↑s.size : Int) + 1) ∧
 IntKind.i64.wrap ((↑s.size : Int) + 1) ≤ IntKind.i64.wrap ((↑s.size : Int) + 1) ∧
 (↑1 : Int) * IntKind.i64.wrap ((↑s.size : Int) + 1) ≤ 281474976710656 ∧
 IntKind.i64.wrap ((↑s.size : Int) + 1) ≤ 9223372036854775807) ∧
 ∀ (n_3 : Nat) (w1 : World),
 NewB w'
 (Obj.cells
 (madeCells #[Value.bool false] ((IntKind.i64.wrap ((↑s.size : Int) + 1)).toNat * 1)) 4)
 n_3 w1 →
 ∃ (I_1 : List Value → World → Prop),
 ∃ (m_1 : List Value → World → Nat),
 I_1 [Value.int IntKind.i64 0] w1 ∧
 ∀ (x_1 : Int) (w'_1 : World),
 I_1 [Value.int IntKind.i64 x_1] w'_1 →
 bsp (decide (x_1 ≤ (↑s.size : Int)))
 (∃ (p_2 : Option Addr),
 ∃ (n_4 : Nat),
 ∃ (c : Nat),
 w'_1.cell? (Addr.mk n_1 (0 + 1) none) = some (Value.slice p_2 n_4 c) ∧
 nn true p_2 fun (b o : Nat) =>
 (0 ≤ x ∧ x < (↑n_4 : Int)) ∧
 ∃ (x_2 : Bool),
 w'_1.cell? (Addr.mk b (o + x.toNat * 129) none) = some (Value.bool x_2) ∧
 bsp x_2
 (nn true p fun (b o : Nat) =>
 (0 ≤ x_1 ∧ x_1 < (↑n : Int)) ∧
 ∃ (x : Bool),
 w'_1.cell? (Addr.mk b (o + x_1.toNat) none) = some (Value.bool x) ∧
 gimp (!x && decide (x_1 > 0))
 (0 ≤ IntKind.i64.wrap (x_1 - 1) ∧
 IntKind.i64.wrap (x_1 - 1) <
 (↑(IntKind.i64.wrap ((↑s.size : Int) + 1)).toNat : Int)) ∧
 ∃ (x_3 : Bool),
 gimp (!x && decide (x_1 > 0))
 (w'_1.cell?
 (Addr.mk n_3 (0 + (IntKind.i64.wrap (x_1 - 1)).toNat) none) =
 some (Value.bool x_3)) ∧
 (0 ≤ x_1 ∧
 x_1 < (↑(IntKind.i64.wrap ((↑s.size : Int) + 1)).toNat : Int)) ∧
 ((∃ (u : Value),
 w'_1.cell? (Addr.mk n_3 (0 + x_1.toNat) none) = some u) ∧
 w'_1.frozen? (Addr.mk n_3 (0 + x_1.toNat) none) = false) ∧
 ∀ (w1 : World),
 PutB w'_1 n_3 (0 + x_1.toNat)
 [Value.bool (x || decide (x_1 > 0) && x_3)] w1 →
 I_1 [Value.int IntKind.i64 (IntKind.i64.wrap (x_1 + 1))] w1 ∧
 m_1 [Value.int IntKind.i64 (IntKind.i64.wrap (x_1 + 1))] w1 <
 m_1 [Value.int IntKind.i64 x_1] w'_1)
 (bsp (decide (x_1 > 0))
 (nn true p fun (b o : Nat) =>
 (0 ≤ IntKind.i64.wrap (x_1 - 1) ∧
 IntKind.i64.wrap (x_1 - 1) < (↑n : Int)) ∧
 ∃ (x_3 : Bool),
 w'_1.drew.cell?
 (Addr.mk b (o + (IntKind.i64.wrap (x_1 - 1)).toNat) none) =
 some (Value.bool x_3) ∧
 ∃ (p : Option Addr),
 ∃ (n : Nat),
 ∃ (c : Nat),
 gimp x_3
 (w'_1.drew.cell? (Addr.mk n_1 (0 + 1) none) =
 some (Value.slice p n c)) ∧
 gimp x_3
 (0 ≤ IntKind.i64.wrap (x_1 - 1) ∧
 IntKind.i64.wrap (x_1 - 1) < (↑s.size : Int)) ∧
 nn x_3 p fun (b o : Nat) =>
 gimp x_3 (0 ≤ x ∧ x < (↑n : Int)) ∧
 gimp x_3
 (0 ≤ at8 s (IntKind.i64.wrap (x_1 - 1)).toNat ∧
 at8 s (IntKind.i64.wrap (x_1 - 1)).toNat < (↑128 : Int)) ∧
 ∃ (x_4 : Bool),
 gimp x_3
 (w'_1.drew.cell?
 (Addr.mk b
 (o + x.toNat * 129 + 1 +
 (at8 s (IntKind.i64.wrap (x_1 - 1)).toNat).toNat)
 none) =
 some (Value.bool x_4)) ∧
 (0 ≤ x_1 ∧
 x_1 <
 (↑(IntKind.i64.wrap ((↑s.size : Int) + 1)).toNat : Int)) ∧
 ((∃ (u : Value),
 w'_1.drew.cell? (Addr.mk n_3 (0 + x_1.toNat) none) =
 some u) ∧
 w'_1.drew.frozen? (Addr.mk n_3 (0 + x_1.toNat) none) =
 false) ∧
 ∀ (w1 : World),
 PutB w'_1.drew n_3 (0 + x_1.toNat)
 [Value.bool (x_3 && x_4)] w1 →
 I_1 [Value.int IntKind.i64 (IntKind.i64.wrap (x_1 + 1))]
 w1 ∧
 m_1 [Value.int IntKind.i64 (IntKind.i64.wrap (x_1 + 1))]
 w1 <
 m_1 [Value.int IntKind.i64 x_1] w'_1)
 (I_1 [Value.int IntKind.i64 (IntKind.i64.wrap (x_1 + 1))] w'_1 ∧
 m_1 [Value.int IntKind.i64 (IntKind.i64.wrap (x_1 + 1))] w'_1 <
 m_1 [Value.int IntKind.i64 x_1] w'_1)))
 (I
 [Value.slice (some (Addr.mk n_3 0 none))
 (IntKind.i64.wrap ((↑s.size : Int) + 1)).toNat
 (IntKind.i64.wrap ((↑s.size : Int) + 1)).toNat,
 Value.int IntKind.i64 (IntKind.i64.wrap (x + 1))]
 w'_1 ∧
 m
 [Value.slice (some (Addr.mk n_3 0 none))
 (IntKind.i64.wrap ((↑s.size : Int) + 1)).toNat
 (IntKind.i64.wrap ((↑s.size : Int) + 1)).toNat,
 Value.int IntKind.i64 (IntKind.i64.wrap (x + 1))]
 w'_1 <
 m [Value.slice p n c, Value.int IntKind.i64 x] w'))
 (nn true p fun (b o : Nat) =>
 (0 ≤ (↑s.size : Int) ∧ (↑s.size : Int) < (↑n : Int)) ∧
 ∃ (x : Bool),
 w'.cell? (Addr.mk b (o + (↑s.size : Int).toNat) none) = some (Value.bool x) ∧
 R (Ending.returned (Value.bool x)) w'))
theorem vc_rmatch (t : ByteArray) (p : Option Addr) (n : Nat) (c : Nat) (s : ByteArray) (w : World) (R : Ending → World → Prop) (h : VC_rmatch t p n c s w R) : Calls Tryz.prog 86 ([Value.agg
    #[Value.string t, Value.slice p n c],
  Value.string s] : List Value).toArray w R := by
  have e : execR { P := Tryz.prog, loops := [(2, [(5, Ck.int IntKind.i64)]), (9, [(6, Ck.slice), (7, Ck.int IntKind.i64)]), (13, [(9, Ck.int IntKind.i64)])], pur := pur1, tails := [(18, 21)], joins := [], boxes := [] } Tryz.f86.results.toList R (Tryz.f86.body.getD .skip) (initF [Value.agg
    #[Value.string t, Value.slice p n c],
  Value.string
    s] (Tryz.f86.ntmps - ([Value.agg #[Value.string t, Value.slice p n c],
  Value.string s] : List Value).length)) w = VC_rmatch t p n c s w R := by kernel_rfl
  have hb : Tryz.f86.body = some (Tryz.f86.body.getD .skip) := by kernel_rfl
  exact calls_of_exec' (P := Tryz.prog) (fn := Tryz.f86) (c := Tryz.f86.body.getD .skip) (args := [Value.agg
    #[Value.string t, Value.slice p n c],
  Value.string s]) (w := w) (R := R) pur1_ok Tryz.func86 hb e h

end Go.Proofs.YtcpjajjocmpkjaaGreatDoor
