/- The formulas of functions by the symbolic evaluator, and that each gives the call's contract. Written by a program (gen.py). No condition. -/
import Derived.Test.YtmjanmffnblcoaaProg
import Derived.Test.YtmjanmffnblcoaaZ02
import Derived.Test.YtmjanmffnblcoaaZ05
import Derived.KernelRfl
import Derived.Test.YtmjanmffnblcoaaZ03
import Derived.Maps.Keyed
import Derived.DeepKeys3
import Derived.Sort.Grow
namespace Go.Proofs.Ytmjanmffnblcoaa
set_option maxRecDepth 100000
set_option linter.unusedVariables false

def VC_compile (s : ByteArray) (w : World) (R : Ending → World → Prop) : Prop :=
 bsp (s.toList == [])
 (R (Ending.returned (Value.tuple #[Value.pointer none, Value.int IntKind.i64 0, Value.int IntKind.i64 4])) w)
 (bsp (decide ((↑s.size : Int) > 80))
 (R (Ending.returned (Value.tuple #[Value.pointer none, Value.int IntKind.i64 80, Value.int IntKind.i64 5])) w)
 (∀ (n : Nat) (w1 : World),
 NewB w (Obj.cells #[Value.string s, Value.slice none 0 0] 131) n w1 →
 ∃ (I : List Value → World → Prop),
 ∃ (m : List Value → World → Nat),
 I [Value.int IntKind.i64 0] w1 ∧
 ∀ (x : Int) (w' : World),
 I [Value.int IntKind.i64 x] w' →
 bsp (decide (x < (↑s.size : Int)))
 (∃ (J : List Value → World → Prop),
 ((0 ≤ x ∧ x < (↑s.size : Int)) ∧
 bsp (at8 s x.toNat == 63)
 (∃ (p : Option Addr),
 ∃ (n_1 : Nat),
 ∃ (c : Nat),
 w'.cell? (Addr.mk n (0 + 1) none) = some (Value.slice p n_1 c) ∧
 ∀ (n_2 : Nat) (w1 : World),
 NewB w' (Obj.cells #[Value.iface 133 (Value.agg #[])] 164) n_2 w1 →
 ∃ (base : Nat),
 ∃ (xs : List Value),
 ∃ (news : List Value),
 w1.ownsRow base 164 1 (Value.slice p n_1 c) n_1 xs ∧
 news.length = 1 ∧
 SrcP w1 (some (Addr.mk n_2 0 none)) news ∧
 n_1 + 1 ≤ 9223372036854775807 ∧
 (n_1 + 1) * 16 ≤ 140737488355328 ∧
 base ≤ w1.heap.size ∧
 ∀ (p' : Option Addr) (c' : Nat) (w' : World),
 w'.ownsRow base 164 1 (Value.slice p' (n_1 + 1) c') (n_1 + 1) (xs ++ news) →
 w1.grownBy w' (Value.slice p n_1 c).ownBlock →
 (n_1 + 1 ≤ c → p' = p ∧ c' = c) →
 ((∃ (u : Value), w'.cell? (Addr.mk n (0 + 1) none) = some u) ∧
 w'.frozen? (Addr.mk n (0 + 1) none) = false) ∧
 ∀ (w1 : World),
 PutB w' n (0 + 1) [Value.slice p' (n_1 + 1) c'] w1 → J [Value.int IntKind.i64 1] w1)
 (bsp (at8 s x.toNat == 42)
 (∃ (p : Option Addr),
 ∃ (n_1 : Nat),
 ∃ (c : Nat),
 w'.cell? (Addr.mk n (0 + 1) none) = some (Value.slice p n_1 c) ∧
 ∀ (n_2 : Nat) (w1 : World),
 NewB w' (Obj.cells #[Value.iface 134 (Value.agg #[])] 164) n_2 w1 →
 ∃ (base : Nat),
 ∃ (xs : List Value),
 ∃ (news : List Value),
 w1.ownsRow base 164 1 (Value.slice p n_1 c) n_1 xs ∧
 news.length = 1 ∧
 SrcP w1 (some (Addr.mk n_2 0 none)) news ∧
 n_1 + 1 ≤ 9223372036854775807 ∧
 (n_1 + 1) * 16 ≤ 140737488355328 ∧
 base ≤ w1.heap.size ∧
 ∀ (p' : Option Addr) (c' : Nat) (w' : World),
 w'.ownsRow base 164 1 (Value.slice p' (n_1 + 1) c') (n_1 + 1) (xs ++ news) →
 w1.grownBy w' (Value.slice p n_1 c).ownBlock →
 (n_1 + 1 ≤ c → p' = p ∧ c' = c) →
 ((∃ (u : Value), w'.cell? (Addr.mk n (0 + 1) none) = some u) ∧
 w'.frozen? (Addr.mk n (0 + 1) none) = false) ∧
 ∀ (w1 : World),
 PutB w' n (0 + 1) [Value.slice p' (n_1 + 1) c'] w1 → J [Value.int IntKind.i64 1] w1)
 (bsp (at8 s x.toNat == 91)
 ((0 ≤ x ∧ x ≤ (↑s.size : Int)) ∧
 CallsS Try.prog 68 #[Value.string (s.extract x.toNat s.size)] w' fun (e : Ending) (w' : World) =>
 ∃ (x_1 : ByteArray),
 ∃ (x_2 : Int),
 e = Ending.returned (Value.tuple #[Value.string x_1, Value.int IntKind.i64 x_2]) ∧
 bsp (x_2 == 0)
 (R
 (Ending.returned
 (Value.tuple #[Value.pointer none, Value.int IntKind.i64 x, Value.int IntKind.i64 3]))
 w')
 (∃ (p : Option Addr),
 ∃ (n_1 : Nat),
 ∃ (c : Nat),
 w'.cell? (Addr.mk n (0 + 1) none) = some (Value.slice p n_1 c) ∧
 ∀ (n_2 : Nat) (w1 : World),
 NewB w' (Obj.cells #[Value.iface 135 (Value.string x_1)] 164) n_2 w1 →
 ∃ (base : Nat),
 ∃ (xs : List Value),
 ∃ (news : List Value),
 w1.ownsRow base 164 1 (Value.slice p n_1 c) n_1 xs ∧
 news.length = 1 ∧
 SrcP w1 (some (Addr.mk n_2 0 none)) news ∧
 n_1 + 1 ≤ 9223372036854775807 ∧
 (n_1 + 1) * 16 ≤ 140737488355328 ∧
 base ≤ w1.heap.size ∧
 ∀ (p' : Option Addr) (c' : Nat) (w' : World),
 w'.ownsRow base 164 1 (Value.slice p' (n_1 + 1) c') (n_1 + 1) (xs ++ news) →
 w1.grownBy w' (Value.slice p n_1 c).ownBlock →
 (n_1 + 1 ≤ c → p' = p ∧ c' = c) →
 ((∃ (u : Value), w'.cell? (Addr.mk n (0 + 1) none) = some u) ∧
 w'.frozen? (Addr.mk n (0 + 1) none) = false) ∧
 ∀ (w1 : World),
 PutB w' n (0 + 1) [Value.slice p' (n_1 + 1) c'] w1 →
 J [Value.int IntKind.i64 x_2] w1))
 (bsp
 (decide
 (Lib.indexByte
 (ByteArray.mk
 #[43, 45, 46, 48, 49, 50, 51, 52, 53, 54, 55, 56, 57, 95, 97, 98, 99, 100, 101, 102, 103, 104,
 105, 106, 107, 108, 109, 110, 111, 112, 113, 114, 115, 116, 117, 118, 119, 120, 121,
 122]).data.toList
 (at8 s x.toNat).toNat.toUInt8 ≥
 0))
 (∃ (S : World → Prop),
 S w'.drew ∧
 ∃ (p : Option Addr),
 ∃ (n_1 : Nat),
 ∃ (c : Nat),
 (∀ (w' : World), S w' → w'.cell? (Addr.mk n (0 + 1) none) = some (Value.slice p n_1 c)) ∧
 (0 ≤ x ∧ x ≤ IntKind.i64.wrap (x + 1) ∧ IntKind.i64.wrap (x + 1) ≤ (↑s.size : Int)) ∧
 ∀ (n_2 : Nat) (w1 : World),
 NewB w'.drew
 (Obj.cells
 #[Value.iface 139 (Value.string (s.extract x.toNat (IntKind.i64.wrap (x + 1)).toNat))] 164)
 n_2 w1 →
 S w1 ∧
 ∃ (base : Nat),
 ∃ (xs : List Value),
 ∃ (news : List Value),
 w1.ownsRow base 164 1 (Value.slice p n_1 c) n_1 xs ∧
 news.length = 1 ∧
 SrcP w1 (some (Addr.mk n_2 0 none)) news ∧
 n_1 + 1 ≤ 9223372036854775807 ∧
 (n_1 + 1) * 16 ≤ 140737488355328 ∧
 base ≤ w1.heap.size ∧
 ∀ (p' : Option Addr) (c' : Nat) (w' : World),
 w'.ownsRow base 164 1 (Value.slice p' (n_1 + 1) c') (n_1 + 1) (xs ++ news) →
 w1.grownBy w' (Value.slice p n_1 c).ownBlock →
 (n_1 + 1 ≤ c → p' = p ∧ c' = c) →
 ((∃ (u : Value), w'.cell? (Addr.mk n (0 + 1) none) = some u) ∧
 w'.frozen? (Addr.mk n (0 + 1) none) = false) ∧
 ∀ (w1 : World),
 PutB w' n (0 + 1) [Value.slice p' (n_1 + 1) c'] w1 →
 J [Value.int IntKind.i64 1] w1)
 (R
 (Ending.returned
 (Value.tuple #[Value.pointer none, Value.int IntKind.i64 x, Value.int IntKind.i64 6]))
 w'))))) ∧
 ∀ (x_1 : Int) (w'_1 : World),
 J [Value.int IntKind.i64 x_1] w'_1 →
 I [Value.int IntKind.i64 (IntKind.i64.wrap (x + x_1))] w'_1 ∧
 m [Value.int IntKind.i64 (IntKind.i64.wrap (x + x_1))] w'_1 < m [Value.int IntKind.i64 x] w')
 (R
 (Ending.returned
 (Value.tuple #[Value.pointer (some (Addr.mk n 0 none)), Value.int IntKind.i64 0, Value.int IntKind.i64 0]))
 w')))
theorem vc_compile (s : ByteArray) (w : World) (R : Ending → World → Prop) (h : VC_compile s w R) : Calls Try.prog 47 ([Value.string
    s] : List Value).toArray w R := by
  have e : execR { P := Try.prog, loops := [(7, [(6, Ck.int IntKind.i64)])], pur := pur1, tails := [(22, 11)], joins := [(23, [(7, Ck.int IntKind.i64)])], boxes := [] } Try.f47.results.toList R (Try.f47.body.getD .skip) (initF [Value.string
    s] (Try.f47.ntmps - ([Value.string s] : List Value).length)) w = VC_compile s w R := by kernel_rfl
  have hb : Try.f47.body = some (Try.f47.body.getD .skip) := by kernel_rfl
  exact calls_of_exec' (P := Try.prog) (fn := Try.f47) (c := Try.f47.body.getD .skip) (args := [Value.string
    s]) (w := w) (R := R) pur1_ok Try.func47 hb e h

end Go.Proofs.Ytmjanmffnblcoaa

/- The contract of wildmat.Compile, by a plain function. No condition. -/
namespace Go.Proofs.Ytmjanmffnblcoaa
open Go.RowKit

/-- A pattern in the memory: its block and its row of elements lie where D says. -/
def PatR (D : Nat → Prop) (w : World) (b : Nat) (s : ByteArray) (els : List El) : Prop :=
  ∃ (p : Option Addr) (n c : Nat), w.heap[b]? = some (.cells #[.string s, .slice p n c] 131 (0, 0)) ∧ D b ∧ w.ownsRow 0 164 1 (.slice p n c) n (els.map El.val) ∧ ∀ k, (Value.slice p n c).ownBlock = some k → D k
theorem PatR.kp {D M : Nat → Prop} {w w' : World} {b : Nat} {s : ByteArray} {els : List El} (h : PatR D w b s els) (hk : Kp M w w') (hm : ∀ k, D k → k < w.heap.size → ¬ M k) : PatR D w' b s els := by
  obtain ⟨p, n, c, h1, h2, h3, h4⟩ := h
  exact ⟨p, n, c, hk.blk h1 (hm b h2 (block_lt h1)), h2, owns_kp h3 hk (fun k hk => hm k (h4 k hk) (own_lt h3 hk)), h4⟩
/-- Blocks of other types are written. -/
theorem PatR.kpT {D M : Nat → Prop} {w w' : World} {b : Nat} {s : ByteArray} {els : List El} (h : PatR D w b s els) (hk : Kp M w w') (hm : ∀ k c t f, M k → w.heap[k]? = some (.cells c t f) → t ≠ 131 ∧ t ≠ 164) : PatR D w' b s els := by
  obtain ⟨p, n, c, h1, h2, h3, h4⟩ := h
  refine ⟨p, n, c, hk.blk h1 (fun hM => (hm b _ _ _ hM h1).1 rfl), h2, owns_kp h3 hk (fun k hk hM => ?_), h4⟩
  obtain ⟨cc, hc⟩ := own_type h3 hk
  exact (hm k _ _ _ hM hc).2 rfl
theorem PatR.mono {D D' : Nat → Prop} {w : World} {b : Nat} {s : ByteArray} {els : List El} (h : PatR D w b s els) (hd : ∀ k, D k → k < w.heap.size → D' k) : PatR D' w b s els := by
  obtain ⟨p, n, c, h1, h2, h3, h4⟩ := h
  exact ⟨p, n, c, h1, hd b h2 (block_lt h1), h3, fun k hk => hd k (h4 k hk) (own_lt h3 hk)⟩

/-- The elements of a pattern from an index on, or the offset and the kind of the error. -/
def compS (s : ByteArray) : Nat → Nat → List El → List El ⊕ (Nat × Int)
  | 0, _, acc => .inl acc
  | f + 1, k, acc =>
    if k < s.size then
      if (at8 s k == 63) = true then compS s f (k + 1) (acc ++ [.one])
      else if (at8 s k == 42) = true then compS s f (k + 1) (acc ++ [.star])
      else if (at8 s k == 91) = true then
        if clsN (s.extract k s.size) = 0 then .inr (k, 3) else compS s f (k + clsN (s.extract k s.size)) (acc ++ [.cls (clsS (s.extract k s.size))])
      else if hasB nameBytes (at8 s k) = true then compS s f (k + 1) (acc ++ [.lit (s.extract k (k + 1))])
      else .inr (k, 6)
    else .inl acc
def compileR (s : ByteArray) : List El ⊕ (Nat × Int) :=
  if s.size = 0 then .inr (0, 4) else if 80 < s.size then .inr (80, 5) else compS s s.size 0 []
theorem clsN_le (s : ByteArray) (h : 1 ≤ s.size) : clsN s ≤ s.size := by
  unfold clsN
  split
  · omega
  · rename_i hn
    have h1 := itemsS_le (restB s) (restB s).size 0 (fun _ => false) (by omega)
    have h2 : (restB s).size = s.size - fromN s := by unfold restB; rw [ByteArray.size_extract]; omega
    have h3 : fromN s ≤ s.size := by
      unfold fromN
      split
      · rename_i hneg; exact hasPrefix_size hneg
      · exact h
    have h4 : (listS s).2 ≤ s.size - fromN s := by unfold listS; omega
    have h5 : ¬ fromN s + (listS s).2 = s.size := fun e => hn (.inr (.inl e))
    omega
theorem El.oneCell (x : El) : (x.val).oneCell' = true := by cases x <;> rfl
theorem hasB_index (x : ByteArray) (c : Int) : decide (Lib.indexByte x.data.toList c.toNat.toUInt8 ≥ 0) = hasB x c := by
  exact indexByte_nonneg _ _

/-- A pattern that is being made. -/
def PatSt (w : World) (nb : Nat) (s : ByteArray) (acc : List El) : Prop :=
  ∃ (p : Option Addr) (n c : Nat), w.heap[nb]? = some (.cells #[.string s, .slice p n c] 131 (0, 0)) ∧ w.ownsRow (nb + 1) 164 1 (.slice p n c) n (acc.map El.val)
theorem PatSt.kp {w w' : World} {nb : Nat} {s : ByteArray} {acc : List El} (h : PatSt w nb s acc) (hk : K0 w w') : PatSt w' nb s acc := by
  obtain ⟨p, n, c, h1, h2⟩ := h
  exact ⟨p, n, c, hk.blk h1 (fun h => h), owns_kp h2 hk (fun _ _ h => h)⟩

set_option maxHeartbeats 400000 in
theorem compile_any (s : ByteArray) (w : World) : Calls Try.prog 47 #[.string s] w fun e w' => K0 w w' ∧
    match compileR s with
    | .inl els => ∃ b, e = .returned (.tuple #[.pointer (some ⟨b, 0, none⟩), .int .i64 0, .int .i64 0]) ∧ PatR (fun k => w.heap.size ≤ k) w' b s els
    | .inr (o, x) => e = .returned (.tuple #[.pointer none, .int .i64 o, .int .i64 x]) := by
  refine vc_compile s w _ ?_
  unfold VC_compile
  rw [toList_nil]
  refine bsp_intro (fun h0 => ?_) (fun h0 => bsp_intro (fun h1 => ?_) (fun h1 => ?_))
  · have h0 : s.size = 0 := by simpa using h0
    refine ⟨.refl _ _, ?_⟩
    simp only [compileR, h0, if_true]
    rfl
  · have h0 : ¬ s.size = 0 := by simpa using h0
    have h1 : 80 < s.size := by simp at h1; omega
    refine ⟨.refl _ _, ?_⟩
    simp only [compileR, h0, h1, if_true, if_false]
    rfl
  have h0 : ¬ s.size = 0 := by simpa using h0
  have h1 : ¬ 80 < s.size := by simp at h1; omega
  have hR : compileR s = compS s s.size 0 [] := by simp only [compileR, h0, h1, if_false]
  rw [hR]
  intro nb w1 hn
  refine ⟨fun vs w' => ∃ (k f : Nat) (acc : List El), vs = [.int .i64 k] ∧ k ≤ s.size ∧ s.size - k ≤ f ∧ acc.length ≤ k ∧ compS s f k acc = compS s s.size 0 [] ∧ PatSt w' nb s acc ∧ K0 w w',
    fun vs _ => (match vs with | .int _ x :: _ => s.size - x.toNat | _ => 0), ⟨0, s.size, [], rfl, by omega, by omega, by simp, rfl, ⟨none, 0, 0, hn.block, World.ownsRow_nil _ _ _ _⟩, hn.kp _⟩, fun x w' ⟨k, f, acc, hv, hk, hf, hacc, hS, hst, hw⟩ => ?_⟩
  simp only [List.cons.injEq, Value.int.injEq, true_and, and_true] at hv
  subst hv
  have hnb : nb = w.heap.size := hn.hn
  refine bsp_intro (fun hlt => ?_) (fun hge => ?_)
  · have hlt : k < s.size := by simpa using hlt
    obtain ⟨f, rfl⟩ : ∃ g, f = g + 1 := ⟨f - 1, by omega⟩
    have e0 : (k : Int).toNat = k := by omega
    rw [e0, wr64 (x := (k : Int) + 1) (by omega) (by omega)]
    have e1 : ((k : Int) + 1).toNat = k + 1 := by omega
    rw [e1]
    -- one element more
    have app : ∀ (x : El) (wa : World), PatSt wa nb s acc → K0 w wa → ∀ (p : Option Addr) (n_1 c : Nat), wa.heap[nb]? = some (.cells #[.string s, .slice p n_1 c] 131 (0, 0)) → wa.ownsRow (nb + 1) 164 1 (.slice p n_1 c) n_1 (acc.map El.val) →
        ∀ (n_2 : Nat) (w1 : World), NewB wa (.cells #[x.val] 164) n_2 w1 → ∀ (Y : World → Prop), (∀ w2, PatSt w2 nb s (acc ++ [x]) → K0 w w2 → Y w2) →
        ∃ (base : Nat) (xs news : List Value), w1.ownsRow base 164 1 (.slice p n_1 c) n_1 xs ∧ news.length = 1 ∧ SrcP w1 (some (Addr.mk n_2 0 none)) news ∧ n_1 + 1 ≤ 9223372036854775807 ∧ (n_1 + 1) * 16 ≤ 140737488355328 ∧ base ≤ w1.heap.size ∧
          ∀ (p' : Option Addr) (c' : Nat) (w' : World), w'.ownsRow base 164 1 (.slice p' (n_1 + 1) c') (n_1 + 1) (xs ++ news) → w1.grownBy w' (Value.slice p n_1 c).ownBlock → (n_1 + 1 ≤ c → p' = p ∧ c' = c) →
            ((∃ (u : Value), w'.cell? (Addr.mk nb (0 + 1) none) = some u) ∧ w'.frozen? (Addr.mk nb (0 + 1) none) = false) ∧
              ∀ (w1 : World), PutB w' nb (0 + 1) [Value.slice p' (n_1 + 1) c'] w1 → Y w1 := by
      intro x wa hsta hwa p n_1 c hb ho n_2 w1 hn2 Y hY
      have hl := ho.1
      rw [List.length_map] at hl
      refine app1 ho (block_lt hb) hn2 rfl (fun u hu => by simp at hu; subst hu; exact x.oneCell) (by omega) (by omega) (fun p' c' w' ho' hk' _ => ?_)
      have hne : ∀ k, (Value.slice p n_1 c).ownBlock = some k → ¬ nb = k := fun k hk e => by have := own_ge ho hk; omega
      have hb' : w'.heap[nb]? = some (.cells #[.string s, .slice p n_1 c] 131 (0, 0)) := hk'.blk hb (fun e => hne _ e rfl)
      refine ⟨cell_wr hb' (by simp), fun w2 hp => hY w2 ⟨p', n_1 + 1, c', hp.block hb', ?_⟩ ?_⟩
      · rw [List.map_append]
        exact owns_kp ho' hp.kp (fun k hk e => by have := own_ge ho' hk; omega)
      · have := hwa.size
        exact (hwa.fresh hk' (fun i hi e => by have := own_ge ho e; omega)).fresh hp.kp (fun i hi e => by omega)
    refine ⟨fun vs w2 => ∃ (d : Nat) (acc' : List El), vs = [.int .i64 (d : Int)] ∧ 1 ≤ d ∧ k + d ≤ s.size ∧ acc'.length ≤ k + d ∧ compS s f (k + d) acc' = compS s s.size 0 [] ∧ PatSt w2 nb s acc' ∧ K0 w w2, ⟨⟨by omega, by omega⟩, ?_⟩, fun x_1 w2 ⟨d, acc', hv, hd1, hd2, hd3, hd4, hd5, hd6⟩ => ?_⟩
    · obtain ⟨p, n_1, c, hb, ho⟩ := hst
      refine bsp_intro (fun c1 => ?_) (fun c1 => bsp_intro (fun c2 => ?_) (fun c2 => bsp_intro (fun c3 => ?_) (fun c3 => ?_)))
      · exact ⟨p, n_1, c, cell_at hb rfl, fun n_2 w1 hn2 => app .one w' ⟨p, n_1, c, hb, ho⟩ hw p n_1 c hb ho n_2 w1 hn2 _ (fun w2 h1 h2 => ⟨1, _, rfl, by omega, by omega, by simp; omega, by rw [← hS]; simp [compS, hlt, c1], h1, h2⟩)⟩
      · exact ⟨p, n_1, c, cell_at hb rfl, fun n_2 w1 hn2 => app .star w' ⟨p, n_1, c, hb, ho⟩ hw p n_1 c hb ho n_2 w1 hn2 _ (fun w2 h1 h2 => ⟨1, _, rfl, by omega, by omega, by simp; omega, by rw [← hS]; simp [compS, hlt, c1, c2], h1, h2⟩)⟩
      · have hxs : (s.extract k s.size).size = s.size - k := by rw [ByteArray.size_extract]; omega
        refine ⟨⟨by omega, by omega⟩, ⟨(parseClass_any (s.extract k s.size) w' (by omega) (by omega)).mono fun e w2 he => ?_⟩⟩
        obtain ⟨he, hk2⟩ := he
        have hle := clsN_le (s.extract k s.size) (by omega)
        have hcs0 : compS s (f + 1) k acc = if clsN (s.extract k s.size) = 0 then .inr (k, 3) else compS s f (k + clsN (s.extract k s.size)) (acc ++ [.cls (clsS (s.extract k s.size))]) := by simp [compS, hlt, c1, c2, c3]
        generalize clsN (s.extract k s.size) = cn at he hle hcs0
        generalize clsS (s.extract k s.size) = cs at he hcs0
        refine ⟨cs, cn, he, ?_⟩
        refine bsp_intro (fun c4 => ⟨hw.trans hk2, ?_⟩) (fun c4 => ?_)
        · have c4 : cn = 0 := by simpa using c4
          rw [← hS, hcs0, if_pos c4]
        · have c4 : ¬ cn = 0 := by simpa using c4
          rw [if_neg c4] at hcs0
          have hb2 := hk2.blk hb (fun h => h)
          have ho2 := owns_kp ho hk2 (fun _ _ h => h)
          exact ⟨p, n_1, c, cell_at hb2 rfl, fun n_2 w1 hn2 => app (.cls cs) w2 ⟨p, n_1, c, hb2, ho2⟩ (hw.trans hk2) p n_1 c hb2 ho2 n_2 w1 hn2 _ (fun w2 h1 h2 => ⟨cn, _, rfl, by omega, by omega, by simp; omega, by rw [← hS]; exact hcs0.symm, h1, h2⟩)⟩
      · have hh : decide (Lib.indexByte (ByteArray.mk #[43, 45, 46, 48, 49, 50, 51, 52, 53, 54, 55, 56, 57, 95, 97, 98, 99, 100, 101, 102, 103, 104, 105, 106, 107, 108, 109, 110, 111, 112, 113, 114, 115, 116, 117, 118, 119, 120, 121, 122]).data.toList (at8 s k).toNat.toUInt8 ≥ 0) = hasB nameBytes (at8 s k) := hasB_index nameBytes _
        rw [hh]
        refine bsp_intro (fun c4 => ?_) (fun c4 => ⟨hw, ?_⟩)
        · refine ⟨fun w2 => w2.cell? (Addr.mk nb (0 + 1) none) = some (Value.slice p n_1 c), cell_at (blk_drew hb) rfl, p, n_1, c, fun w2 h => h, ⟨by omega, by omega, by omega⟩, fun n_2 w1 hn2 => ?_⟩
          have hb2 := blk_drew hb
          have ho2 : w'.drew.ownsRow (nb + 1) 164 1 (.slice p n_1 c) n_1 (acc.map El.val) := ho
          refine ⟨cell_at (hn2.kp (fun _ => False) |>.blk hb2 (fun h => h)) rfl, ?_⟩
          exact app (.lit (s.extract k (k + 1))) w'.drew ⟨p, n_1, c, hb2, ho2⟩ hw.drew p n_1 c hb2 ho2 n_2 w1 hn2 _ (fun w2 h1 h2 => ⟨1, _, rfl, by omega, by omega, by simp; omega, by rw [← hS]; simp [compS, hlt, c1, c2, c3, c4], h1, h2⟩)
        · rw [← hS]
          simp [compS, hlt, c1, c2, c3, c4]
    · simp only [List.cons.injEq, Value.int.injEq, true_and, and_true] at hv
      subst hv
      rw [wr64 (by omega) (by omega)]
      exact ⟨⟨k + d, f, acc', by simp, hd2, by omega, hd3, hd4, hd5, hd6⟩, by simp; omega⟩
  · have hge : ¬ k < s.size := by simpa using hge
    refine ⟨hw, ?_⟩
    have : compS s f k acc = .inl acc := by cases f <;> simp [compS, hge]
    rw [← hS, this]
    obtain ⟨p, n, c, hb, ho⟩ := hst
    exact ⟨nb, rfl, p, n, c, hb, by omega, ⟨ho.1, ho.2.imp id fun ⟨g, cap, cur, a1, a2, a3⟩ => ⟨g, cap, cur, a1, by omega, a3⟩⟩, fun k hk => by have := own_ge ho hk; omega⟩

end Go.Proofs.Ytmjanmffnblcoaa

/- Compiled patterns are short, errors are not 0 (plain). No condition. -/
namespace Go.Proofs.Ytmjanmffnblcoaa

theorem compS_len (s : ByteArray) : ∀ (f k : Nat) (acc els : List El), compS s f k acc = .inl els → els.length ≤ acc.length + f
  | 0, k, acc, els, h => by simp [compS] at h; subst h; omega
  | f + 1, k, acc, els, h => by
    unfold compS at h
    have ih := compS_len s f
    repeat' split at h
    all_goals first
      | (have := ih _ _ _ h; simp at this; omega)
      | (cases h; omega)
      | (cases h)
theorem compileR_len {s : ByteArray} {els : List El} (h : compileR s = .inl els) : els.length ≤ 80 := by
  unfold compileR at h
  split at h
  · cases h
  · split at h
    · cases h
    · have := compS_len s _ _ _ _ h; simp at this; omega
theorem compileR_off (s : ByteArray) (o : Nat) (e : Int) (h : compileR s = .inr (o, e)) : o ≤ 80 ∧ e ≠ 0 := by
  have key : ∀ (f k : Nat) (acc : List El), s.size ≤ 80 → compS s f k acc = .inr (o, e) → o ≤ 80 ∧ e ≠ 0 := by
    intro f
    induction f with
    | zero => intro k acc _ h; simp [compS] at h
    | succ f ih =>
      intro k acc hs h
      unfold compS at h
      repeat' split at h
      all_goals first
        | exact ih _ _ hs h
        | (simp at h; obtain ⟨rfl, rfl⟩ := h; exact ⟨by omega, by decide⟩)
        | (cases h)
  unfold compileR at h
  split at h
  · cases h; exact ⟨by omega, by decide⟩
  · split at h
    · cases h; exact ⟨by omega, by decide⟩
    · exact key _ _ _ (by omega) h


end Go.Proofs.Ytmjanmffnblcoaa

/- The formulas of functions by the symbolic evaluator, and that each gives the call's contract. Written by a program (gen.py). No condition. -/
namespace Go.Proofs.Ytmjanmffnblcoaa
set_option maxRecDepth 100000
set_option linter.unusedVariables false

def VC_match (b : Nat) (o : Nat) (s : ByteArray) (w : World) (R : Ending → World → Prop) : Prop :=
 ∃ (p : Option Addr),
 ∃ (n : Nat),
 ∃ (c : Nat),
 w.cell? (Addr.mk b (o + 1) none) = some (Value.slice p n c) ∧
 (0 ≤ IntKind.i64.wrap ((↑n : Int) + 1) ∧
 IntKind.i64.wrap ((↑n : Int) + 1) ≤ IntKind.i64.wrap ((↑n : Int) + 1) ∧
 (↑1 : Int) * IntKind.i64.wrap ((↑n : Int) + 1) ≤ 281474976710656 ∧
 IntKind.i64.wrap ((↑n : Int) + 1) ≤ 9223372036854775807) ∧
 ∀ (n_1 : Nat) (w1 : World),
 NewB w (Obj.cells (madeCells #[Value.bool false] ((IntKind.i64.wrap ((↑n : Int) + 1)).toNat * 1)) 4) n_1 w1 →
 ((0 : Int) ≤ 0 ∧ 0 < (↑(IntKind.i64.wrap ((↑n : Int) + 1)).toNat : Int)) ∧
 ((∃ (u : Value), w1.cell? (Addr.mk n_1 0 none) = some u) ∧ w1.frozen? (Addr.mk n_1 0 none) = false) ∧
 ∀ (w1_1 : World),
 PutB w1 n_1 0 [Value.bool true] w1_1 →
 CallsS Try.prog 91
 #[Value.pointer (some (Addr.mk b o none)),
 Value.slice (some (Addr.mk n_1 0 none)) (IntKind.i64.wrap ((↑n : Int) + 1)).toNat
 (IntKind.i64.wrap ((↑n : Int) + 1)).toNat]
 w1_1 fun (e : Ending) (w' : World) =>
 e = Ending.returned (Value.tuple #[]) ∧
 ∀ (c n_2 : Nat) (w1 : World),
 s.size ≤ c →
 NewB w'.drew (Obj.cells (bytesRow s c) 5 ((bytesRow s c).size, (bytesRow s c).size + 1)) n_2 w1 →
 ∃ (I : List Value → World → Prop),
 ∃ (m : List Value → World → Nat),
 I
 [Value.slice (some (Addr.mk n_1 0 none)) (IntKind.i64.wrap ((↑n : Int) + 1)).toNat
 (IntKind.i64.wrap ((↑n : Int) + 1)).toNat,
 Value.int IntKind.i64 0]
 w1 ∧
 ∀ (p : Option Addr) (n c : Nat) (x : Int) (w' : World),
 I [Value.slice p n c, Value.int IntKind.i64 x] w' →
 bsp (decide (x < (↑s.size : Int)))
 ((0 ≤ x ∧ x < (↑s.size : Int)) ∧
 ∃ (x_1 : Int),
 w'.cell? (Addr.mk n_2 (0 + x.toNat) none) = some (Value.int IntKind.u8 x_1) ∧
 (0 ≤ (↑n : Int) ∧
 (↑n : Int) ≤ (↑n : Int) ∧
 (↑1 : Int) * (↑n : Int) ≤ 281474976710656 ∧ (↑n : Int) ≤ 9223372036854775807) ∧
 ∀ (n_3 : Nat) (w1 : World),
 NewB w' (Obj.cells (madeCells #[Value.bool false] ((↑n : Int).toNat * 1)) 4) n_3 w1 →
 ∃ (p_1 : Option Addr),
 ∃ (n_4 : Nat),
 ∃ (c_1 : Nat),
 w1.cell? (Addr.mk b (o + 1) none) = some (Value.slice p_1 n_4 c_1) ∧
 ∃ (I_1 : List Value → World → Prop),
 ∃ (m_1 : List Value → World → Nat),
 I_1 [Value.int IntKind.i64 0] w1 ∧
 ∀ (x_2 : Int) (w'_1 : World),
 I_1 [Value.int IntKind.i64 x_2] w'_1 →
 bsp (decide (x_2 < (↑n_4 : Int)))
 (∃ (J : List Value → World → Prop),
 (nn true p_1 fun (b o : Nat) =>
 (0 ≤ x_2 ∧ x_2 < (↑n_4 : Int)) ∧
 ∃ (x : Value),
 w'_1.cell? (Addr.mk b (o + x_2.toNat) none) = some x ∧
 nn true p fun (b o : Nat) =>
 (0 ≤ x_2 ∧ x_2 < (↑n : Int)) ∧
 ∃ (x_3 : Bool),
 w'_1.cell? (Addr.mk b (o + x_2.toNat) none) = some (Value.bool x_3) ∧
 bsp (!!x_3)
 (CallsS Try.prog 92 #[x, Value.int IntKind.u8 x_1] w'_1
 fun (e : Ending) (w' : World) =>
 ∃ (x_4 : Bool),
 e = Ending.returned (Value.bool x_4) ∧
 bsp (false || !x_4) (J [] w')
 (CallsS Try.prog 93 #[x] w' fun (e : Ending) (w' : World) =>
 ∃ (x : Bool),
 e = Ending.returned (Value.bool x) ∧
 bsp x
 ((0 ≤ x_2 ∧ x_2 < (↑(↑n : Int).toNat : Int)) ∧
 ((∃ (u : Value),
 w'.cell? (Addr.mk n_3 (0 + x_2.toNat) none) = some u) ∧
 w'.frozen? (Addr.mk n_3 (0 + x_2.toNat) none) = false) ∧
 ∀ (w1 : World),
 PutB w' n_3 (0 + x_2.toNat) [Value.bool true] w1 → J [] w1)
 ((0 ≤ IntKind.i64.wrap (x_2 + 1) ∧
 IntKind.i64.wrap (x_2 + 1) < (↑(↑n : Int).toNat : Int)) ∧
 ((∃ (u : Value),
 w'.cell?
 (Addr.mk n_3 (0 + (IntKind.i64.wrap (x_2 + 1)).toNat)
 none) =
 some u) ∧
 w'.frozen?
 (Addr.mk n_3 (0 + (IntKind.i64.wrap (x_2 + 1)).toNat)
 none) =
 false) ∧
 ∀ (w1 : World),
 PutB w' n_3 (0 + (IntKind.i64.wrap (x_2 + 1)).toNat)
 [Value.bool true] w1 →
 J [] w1)))
 (J [] w'_1)) ∧
 ∀ (w' : World),
 J [] w' →
 I_1 [Value.int IntKind.i64 (IntKind.i64.wrap (x_2 + 1))] w' ∧
 m_1 [Value.int IntKind.i64 (IntKind.i64.wrap (x_2 + 1))] w' <
 m_1 [Value.int IntKind.i64 x_2] w'_1)
 (CallsS Try.prog 91
 #[Value.pointer (some (Addr.mk b o none)),
 Value.slice (some (Addr.mk n_3 0 none)) (↑n : Int).toNat (↑n : Int).toNat]
 w'_1 fun (e : Ending) (w'_2 : World) =>
 e = Ending.returned (Value.tuple #[]) ∧
 I
 [Value.slice (some (Addr.mk n_3 0 none)) (↑n : Int).toNat (↑n : Int).toNat,
 Value.int IntKind.i64 (IntKind.i64.wrap (x + 1))]
 w'_2 ∧
 m
 [Value.slice (some (Addr.mk n_3 0 none)) (↑n : Int).toNat (↑n : Int).toNat,
 Value.int IntKind.i64 (IntKind.i64.wrap (x + 1))]
 w'_2 <
 m [Value.slice p n c, Value.int IntKind.i64 x] w'))
 (∃ (p_1 : Option Addr),
 ∃ (n_3 : Nat),
 ∃ (c : Nat),
 w'.cell? (Addr.mk b (o + 1) none) = some (Value.slice p_1 n_3 c) ∧
 nn true p fun (b o : Nat) =>
 (0 ≤ (↑n_3 : Int) ∧ (↑n_3 : Int) < (↑n : Int)) ∧
 ∃ (x : Bool),
 w'.cell? (Addr.mk b (o + (↑n_3 : Int).toNat) none) = some (Value.bool x) ∧
 R (Ending.returned (Value.bool x)) w')
theorem vc_match (b : Nat) (o : Nat) (s : ByteArray) (w : World) (R : Ending → World → Prop) (h : VC_match b o s w R) : Calls Try.prog 76 ([Value.pointer
    (some { block := b, off := o }),
  Value.string s] : List Value).toArray w R := by
  have e : execR { P := Try.prog, loops := [(7, [(5, Ck.slice), (28, Ck.int IntKind.i64)]), (11, [(40, Ck.int IntKind.i64)])], pur := pur1, tails := [], joins := [(17, [])], boxes := [] } Try.f76.results.toList R (Try.f76.body.getD .skip) (initF [Value.pointer
    (some { block := b, off := o }),
  Value.string
    s] (Try.f76.ntmps - ([Value.pointer (some { block := b, off := o }),
  Value.string s] : List Value).length)) w = VC_match b o s w R := by kernel_rfl
  have hb : Try.f76.body = some (Try.f76.body.getD .skip) := by kernel_rfl
  exact calls_of_exec' (P := Try.prog) (fn := Try.f76) (c := Try.f76.body.getD .skip) (args := [Value.pointer
    (some { block := b, off := o }),
  Value.string s]) (w := w) (R := R) pur1_ok Try.func76 hb e h

end Go.Proofs.Ytmjanmffnblcoaa

/- The contracts of wildmat's spread and Match, by plain functions. The pattern lies in the memory; at most 2^20 elements. -/
namespace Go.Proofs.Ytmjanmffnblcoaa
open Go.RowKit

/-! ### Rows of bools -/
def bools (f : Nat → Bool) (n : Nat) : Array Value := ((List.range n).map fun j => Value.bool (f j)).toArray
theorem bools_size (f : Nat → Bool) (n : Nat) : (bools f n).size = n := by simp [bools]
theorem bools_get (f : Nat → Bool) (n k : Nat) (h : k < n) : (bools f n)[k]? = some (.bool (f k)) := by
  simp [bools, h]
theorem bools_congr {f g : Nat → Bool} {n : Nat} (h : ∀ j, j < n → f j = g j) : bools f n = bools g n := by
  unfold bools
  congr 1
  exact List.map_congr_left fun j hj => by rw [h j (List.mem_range.1 hj)]
theorem bools_put {f g : Nat → Bool} {n k : Nat} {b : Bool} (h : ∀ j, j < n → g j = if j = k then b else f j) : (putL (bools f n).toList k [.bool b]).toArray = bools g n := by
  simp only [putL]
  apply Array.ext'
  apply List.ext_getElem?
  intro i
  simp only [bools, List.getElem?_set, List.getElem?_map]
  rcases Nat.lt_or_ge i n with hi | hi
  · by_cases e : k = i
    · subst e
      simp [hi, h k hi]
    · have : ¬ i = k := fun x => e x.symm
      simp [hi, e, h i hi, this]
  · simp [hi]; omega
theorem bools_made (n : Nat) : madeCells #[Value.bool false] (n * 1) = bools (fun _ => false) n := by
  apply Array.ext'
  rw [toList_madeCells_one]
  simp only [bools, Nat.mul_one]
  apply List.ext_getElem?
  intro i
  rcases Nat.lt_or_ge i n with hi | hi <;> simp [hi]

def elS (els : List El) (j : Nat) : Bool := match els[j]? with | some e => e.isStar | none => false
def elH (els : List El) (j : Nat) (c : Int) : Bool := match els[j]? with | some e => hasB e.chars c | none => false
/-- What is reached because a star stands for nothing. -/
def spF (st : Nat → Bool) (m : Nat → Bool) : Nat → Bool
  | 0 => m 0
  | i + 1 => m (i + 1) || (st i && spF st m i)

theorem spread_any {D : Nat → Prop} {w : World} {b : Nat} {s : ByteArray} {els : List El} {g : Nat} {f : Nat → Bool} (hp : PatR D w b s els) (hl : els.length ≤ 1048576) (hg : w.heap[g]? = some (.cells (bools f (els.length + 1)) 4 (0, 0))) (hD : ∀ k, D k → k ≠ g) (c : Nat) :
    Calls Try.prog 91 #[.pointer (some ⟨b, 0, none⟩), .slice (some ⟨g, 0, none⟩) (els.length + 1) c] w fun e w' =>
      e = .returned (.tuple #[]) ∧ w'.heap[g]? = some (.cells (bools (spF (elS els) f) (els.length + 1)) 4 (0, 0)) ∧ Kp (· = g) w w' := by
  refine vc_spread b 0 _ _ c w _ ?_
  unfold VC_spread
  obtain ⟨p, n, c', hb, hDb, ho, hDo⟩ := hp
  have hn := ho.1
  rw [List.length_map] at hn
  have hn : n = els.length := by omega
  subst hn
  refine ⟨p, els.length, c', by rw [Nat.zero_add]; exact cell_at hb rfl, ?_⟩
  refine count1 els.length (by omega) (fun k w' => w'.heap[g]? = some (.cells (bools (fun j => if j ≤ k then spF (elS els) f j else f j) (els.length + 1)) 4 (0, 0)) ∧ Kp (· = g) w w') ⟨?_, .refl _ _⟩ ?_
  · rw [hg]
    congr 2
    apply bools_congr
    intro j _
    by_cases h : j ≤ 0
    · obtain rfl : j = 0 := by omega
      rfl
    · rw [if_neg h]
  · intro I m k w' hk ⟨hg', hw⟩ next
    refine bsp_intro (fun hlt => ?_) (fun hge => ?_)
    · have hlt : k < els.length := by simpa using hlt
      have ho' : w'.ownsRow 0 164 1 (.slice p els.length c') els.length (els.map El.val) := owns_kp ho hw (fun k hk e => hD k (hDo k hk) e)
      obtain ⟨q, v, hp, hv, hc⟩ := own_cell ho' hlt
      subst hp
      obtain ⟨x, hx⟩ : ∃ x, els[k]? = some x := ⟨_, List.getElem?_eq_getElem hlt⟩
      rw [List.getElem?_map, hx] at hv
      simp only [Option.map_some, Option.some.injEq] at hv
      subst hv
      have e0 : (k : Int).toNat = k := by omega
      have e1 : (IntKind.i64.wrap ((k : Int) + 1)).toNat = k + 1 := by rw [wr64 (by omega) (by omega)]; omega
      have e2 : IntKind.i64.wrap ((k : Int) + 1) = ((k + 1 : Nat) : Int) := by rw [wr64 (by omega) (by omega)]; omega
      show (0 ≤ (k : Int) ∧ (k : Int) < (els.length : Int)) ∧ _
      refine ⟨⟨by omega, by omega⟩, x.val, by rw [e0]; exact hc, ?_⟩
      show (0 ≤ (k : Int) ∧ (k : Int) < ((els.length + 1 : Nat) : Int)) ∧ _
      refine ⟨⟨by omega, by omega⟩, _, by rw [e0, Nat.zero_add]; exact cell_at hg' (bools_get _ _ _ (by omega)), ?_⟩
      rw [if_pos (Nat.le_refl k)]
      have keep : ∀ w2, Kp (· = g) w w2 → w2.heap[g]? = some (.cells (bools (fun j => if j ≤ k then spF (elS els) f j else f j) (els.length + 1)) 4 (0, 0)) → (elS els k && spF (elS els) f k) = false → w2.heap[g]? = some (.cells (bools (fun j => if j ≤ k + 1 then spF (elS els) f j else f j) (els.length + 1)) 4 (0, 0)) ∧ Kp (· = g) w w2 := fun w2 h1 h2 h3 => by
        refine ⟨?_, h1⟩
        rw [h2]
        congr 2
        apply bools_congr
        intro j _
        by_cases hj : j ≤ k
        · rw [if_pos hj, if_pos (by omega)]
        · rw [if_neg hj]
          by_cases hj1 : j ≤ k + 1
          · obtain rfl : j = k + 1 := by omega
            rw [if_pos hj1]
            simp [spF, h3]
          · rw [if_neg hj1]
      refine bsp_intro (fun hm => ⟨(isStar_any x w').mono fun e w2 ⟨he, hk2⟩ => ⟨_, he, ?_⟩⟩) (fun hm => ?_)
      · have hg2 := hk2.blk hg' (fun h => h)
        have hw2 : Kp (· = g) w w2 := hw.trans (hk2.mono fun _ _ h => h.elim)
        have hst : elS els k = x.isStar := by simp [elS, hx]
        refine bsp_intro (fun h4 => ?_) (fun h4 => ?_)
        · have h4 : x.isStar = true := by simpa using h4
          show (0 ≤ IntKind.i64.wrap ((k : Int) + 1) ∧ IntKind.i64.wrap ((k : Int) + 1) < ((els.length + 1 : Nat) : Int)) ∧ _
          rw [e1, e2]
          refine ⟨⟨by omega, by omega⟩, by rw [Nat.zero_add]; exact cell_wr hg2 (by rw [bools_size]; omega), fun w3 hp3 => ?_⟩
          have hg3 := hp3.block hg2
          rw [Nat.zero_add] at hg3
          rw [← e2]
          refine next (by omega) w3 ⟨?_, hw2.trans hp3.kp⟩
          rw [hg3]
          congr 2
          apply bools_put
          intro j _
          by_cases hj : j = k + 1
          · subst hj
            simp [spF, hst, h4, hm]
          · rw [if_neg hj]
            by_cases hj1 : j ≤ k
            · rw [if_pos hj1, if_pos (by omega)]
            · rw [if_neg hj1, if_neg (by omega)]
        · have h4 : x.isStar = false := by simpa using h4
          exact next (by omega) w2 (keep w2 hw2 hg2 (by simp [hst, h4]))
      · exact next (by omega) w' (keep w' hw hg' (by rw [hm]; simp))
    · have hge : ¬ k < els.length := by simpa using hge
      obtain rfl : k = els.length := by omega
      refine ⟨rfl, ?_, hw⟩
      rw [hg']
      congr 2
      apply bools_congr
      intro j hj
      rw [if_pos (by omega)]

/-! ### Match -/
/-- What is reached behind a character. -/
def stpF (els : List El) (c : Int) (f : Nat → Bool) (j : Nat) : Bool :=
  (elS els j && f j && elH els j c) || (match j with | 0 => false | i + 1 => !elS els i && f i && elH els i c)
/-- What is reached behind k characters. -/
def runF (els : List El) (s : ByteArray) : Nat → Nat → Bool
  | 0 => spF (elS els) (fun j => j == 0)
  | k + 1 => spF (elS els) (stpF els (at8 s k) (runF els s k))
def matchB (els : List El) (s : ByteArray) : Bool := runF els s s.size els.length
/-- The marks of the next row behind k elements. -/
def nxF (els : List El) (c : Int) (f : Nat → Bool) (k j : Nat) : Bool :=
  (decide (j < k) && (elS els j && f j && elH els j c)) || (match j with | 0 => false | i + 1 => decide (i < k) && (!elS els i && f i && elH els i c))
theorem nxF_end (els : List El) (c : Int) (f : Nat → Bool) (j : Nat) (hj : j < els.length + 1) : nxF els c f els.length j = stpF els c f j := by
  unfold nxF stpF
  have h0 : ∀ j, ¬ j < els.length → elS els j = false := fun j h => by simp [elS, List.getElem?_eq_none (Nat.le_of_not_lt h)]
  cases j with
  | zero =>
    by_cases h : 0 < els.length
    · simp [h]
    · simp [h, h0 0 h]
  | succ i =>
    have hi : i < els.length := by omega
    by_cases h : i + 1 < els.length
    · simp [h, hi]
    · simp [h, hi, h0 _ h]
theorem nxF_succ (els : List El) (c : Int) (f : Nat → Bool) (i j : Nat) : nxF els c f (i + 1) j = if (elS els i = true ∧ j = i ∨ elS els i = false ∧ j = i + 1) ∧ (f i && elH els i c) = true then true else nxF els c f i j := by
  have d1 : ∀ a : Nat, decide (a < i + 1) = (decide (a < i) || decide (a = i)) := fun a => by rw [Bool.eq_iff_iff]; simp; omega
  unfold nxF
  by_cases e1 : j = i
  · subst e1
    have e3 : ¬ j = j + 1 := by omega
    simp only [d1, e3, Nat.lt_irrefl, and_false, or_false, and_true, decide_true, decide_false]
    cases j with
    | zero => cases elS els 0 <;> cases f 0 <;> cases elH els 0 c <;> simp
    | succ j =>
      have : ¬ j = j + 1 := by omega
      have h2 : decide (j < j + 1) = true := by simp
      simp only [h2, this, decide_false]
      cases elS els (j + 1) <;> cases f (j + 1) <;> cases elH els (j + 1) c <;> simp
  · by_cases e2 : j = i + 1
    · subst e2
      have e3 : ¬ i + 1 < i := by omega
      simp only [d1, e1, e3, Nat.lt_irrefl, and_false, false_or, and_true, decide_true, decide_false]
      cases elS els i <;> cases f i <;> cases elH els i c <;> simp
    · simp only [d1, e1, e2, and_false, or_false, false_and, if_false, decide_false]
      cases j with
      | zero => simp
      | succ j =>
        have : ¬ j = i := by omega
        simp [this]
theorem spF_congr {st m m' : Nat → Bool} : ∀ (j : Nat), (∀ i, i ≤ j → m i = m' i) → spF st m j = spF st m' j
  | 0, h => h 0 (Nat.le_refl _)
  | j + 1, h => by simp only [spF]; rw [h (j + 1) (Nat.le_refl _), spF_congr j (fun i hi => h i (by omega))]
theorem byte_cell {w : World} {g : Nat} {s : ByteArray} {c : Nat} {t : TypeId} {fz : Nat × Nat} (h : w.heap[g]? = some (.cells (bytesRow s c) t fz)) {k : Nat} (hk : k < s.size) : w.cell? ⟨g, 0 + k, none⟩ = some (.int .u8 (at8 s k)) := by
  rw [cell_block h, Nat.zero_add, bytesRow_at s c k hk, at8_lt s k hk]
  rfl

set_option maxHeartbeats 400000 in
theorem match_any {D : Nat → Prop} {w : World} {b : Nat} {t : ByteArray} {els : List El} (hp : PatR D w b t els) (hl : els.length ≤ 1048576) (s : ByteArray) (hs : s.size ≤ 9223372036854775807) :
    Calls Try.prog 76 #[.pointer (some ⟨b, 0, none⟩), .string s] w fun e w' => e = .returned (.bool (matchB els s)) ∧ K0 w w' := by
  refine vc_match b 0 s w _ ?_
  unfold VC_match
  have hp0 : PatR (fun k => k < w.heap.size) w b t els := hp.mono fun k _ h => h
  obtain ⟨p, n, c, hb, hDb, ho, hDo⟩ := hp
  have hn := ho.1
  rw [List.length_map] at hn
  have hn : n = els.length := by omega
  subst hn
  have e1 : IntKind.i64.wrap ((els.length : Int) + 1) = ((els.length + 1 : Nat) : Int) := by rw [wr64 (by omega) (by omega)]; omega
  refine ⟨p, els.length, c, by rw [Nat.zero_add]; exact cell_at hb rfl, ?_⟩
  rw [e1]
  have e2 : ((els.length + 1 : Nat) : Int).toNat = els.length + 1 := by omega
  rw [e2]
  refine ⟨⟨by omega, by omega, by omega, by omega⟩, fun n_1 w1 hn1 => ⟨⟨by omega, by omega⟩, ?_⟩⟩
  rw [bools_made] at hn1
  have hg1 := hn1.block
  refine ⟨cell_wr hg1 (by rw [bools_size]; omega), fun w2 hp2 => ?_⟩
  have hg2 := hp2.block hg1
  rw [bools_put (g := fun j => j == 0) (fun j _ => by by_cases h : j = 0 <;> simp [h])] at hg2
  have hnew : w.heap.size ≤ n_1 := hn1.ge
  have hw2 : K0 w w2 := (hn1.kp _).fresh hp2.kp (fun i hi e => by omega)
  have hp2' := hp0.kp hw2 (fun k hk _ h => h)
  refine ⟨(spread_any hp2' hl hg2 (fun k hk e => by omega) _).mono fun e w3 ⟨he, hg3, hk3⟩ => ⟨he, fun c1 n_2 w4 hc1 hn4 => ?_⟩⟩
  have hw3 : K0 w w3 := hw2.fresh hk3 (fun i hi e => by omega)
  have hw4 : K0 w w4 := hw3.trans ((hn4.kp _).of_drew)
  have hg4 := (hn4.kp (fun _ => False)).blk (blk_drew hg3) (fun h => h)
  have hb4 := hn4.block
  have hn2 : w.heap.size ≤ n_2 := Nat.le_trans hw3.size hn4.ge
  refine ⟨fun vs w' => ∃ (g k : Nat), vs = [.slice (some ⟨g, 0, none⟩) (els.length + 1) (els.length + 1), .int .i64 k] ∧ k ≤ s.size ∧ w.heap.size ≤ g ∧ g ≠ n_2 ∧ w'.heap[g]? = some (.cells (bools (runF els s k) (els.length + 1)) 4 (0, 0)) ∧
      w'.heap[n_2]? = some (.cells (bytesRow s c1) 5 ((bytesRow s c1).size, (bytesRow s c1).size + 1)) ∧ K0 w w', fun vs _ => (match vs with | [_, .int _ x] => s.size - x.toNat | _ => 0),
    ⟨n_1, 0, rfl, by omega, hnew, fun e => by have h9 := block_lt hg3; have h8 := hn4.ge; have : w3.drew.heap.size = w3.heap.size := rfl; omega, hg4, hb4, hw4⟩, fun q nn cc x w' ⟨g, k, hv, hk, hg, hgn, hgw, hbw, hw'⟩ => ?_⟩
  simp only [List.cons.injEq, Value.int.injEq, true_and, Value.slice.injEq, and_true] at hv
  obtain ⟨⟨rfl, rfl, rfl⟩, rfl⟩ := hv
  have hpw := hp0.kp hw' (fun k hk _ h => h)
  have e0 : (k : Int).toNat = k := by omega
  have hpw' := hpw
  obtain ⟨p', n', c', hb', hDb', ho', hDo'⟩ := hpw'
  have hn' := ho'.1
  rw [List.length_map] at hn'
  have hn' : n' = els.length := by omega
  subst hn'
  refine bsp_intro (fun hlt => ⟨⟨by omega, by simpa using hlt⟩, ?_⟩) (fun hge => ?_)
  · have hlt : k < s.size := by simpa using hlt
    refine ⟨at8 s k, by rw [e0]; exact byte_cell hbw hlt, ⟨by omega, by omega, by omega, by omega⟩, fun n_3 w5 hn5 => ?_⟩
    rw [e2] at hn5 ⊢
    rw [bools_made] at hn5
    have hn3 : w.heap.size ≤ n_3 := Nat.le_trans hw'.size hn5.ge
    have hg3n : g < n_3 := Nat.lt_of_lt_of_le (block_lt hgw) hn5.ge
    have hn23 : n_2 < n_3 := Nat.lt_of_lt_of_le (block_lt hbw) hn5.ge
    have hw5 : K0 w w5 := hw'.trans (hn5.kp _)
    have hK5 := hn5.kp (fun _ => False)
    refine ⟨p', els.length, c', by rw [Nat.zero_add]; exact cell_at (hK5.blk hb' (fun h => h)) rfl, ?_⟩
    refine count1 els.length (by omega) (fun i w6 => w6.heap[n_3]? = some (.cells (bools (nxF els (at8 s k) (runF els s k) i) (els.length + 1)) 4 (0, 0)) ∧ Kp (· = n_3) w5 w6) ⟨?_, .refl _ _⟩ ?_
    · rw [hn5.block]
      congr 2
      apply bools_congr
      intro j _
      cases j <;> simp [nxF]
    · intro I m i w6 hi ⟨h6, hk6⟩ next
      have hw6 : K0 w w6 := hw5.fresh hk6 (fun i hi e => by omega)
      have ho6 : w6.ownsRow 0 164 1 (.slice p' els.length c') els.length (els.map El.val) := owns_kp (owns_kp ho' hK5 (fun _ _ h => h)) hk6 (fun k hk e => by have := hDo' k hk; omega)
      have hg6 := hk6.blk (hK5.blk hgw (fun h => h)) (fun e => by omega)
      have hb6 := hk6.blk (hK5.blk hbw (fun h => h)) (fun e => by omega)
      refine bsp_intro (fun hlt6 => ?_) (fun hge6 => ?_)
      · have hlt6 : i < els.length := by simpa using hlt6
        have f0 : (i : Int).toNat = i := by omega
        have f1 : IntKind.i64.wrap ((i : Int) + 1) = ((i + 1 : Nat) : Int) := by rw [wr64 (by omega) (by omega)]; omega
        have f2 : ((i + 1 : Nat) : Int).toNat = i + 1 := by omega
        refine ⟨fun _ w7 => w7.heap[n_3]? = some (.cells (bools (nxF els (at8 s k) (runF els s k) (i + 1)) (els.length + 1)) 4 (0, 0)) ∧ Kp (· = n_3) w5 w7, ?_, fun w7 h7 => next hlt6 w7 h7⟩
        obtain ⟨q6, v, hpq, hv, hc6⟩ := own_cell ho6 hlt6
        subst hpq
        obtain ⟨x, hx⟩ : ∃ x, els[i]? = some x := ⟨_, List.getElem?_eq_getElem hlt6⟩
        rw [List.getElem?_map, hx] at hv
        simp only [Option.map_some, Option.some.injEq] at hv
        subst hv
        have hst : elS els i = x.isStar := by simp [elS, hx]
        have hha : elH els i (at8 s k) = hasB x.chars (at8 s k) := by simp [elH, hx]
        have step : ∀ j, nxF els (at8 s k) (runF els s k) (i + 1) j = if (elS els i = true ∧ j = i ∨ elS els i = false ∧ j = i + 1) ∧ (runF els s k i && elH els i (at8 s k)) = true then true else nxF els (at8 s k) (runF els s k) i j := by
          exact fun j => nxF_succ _ _ _ _ _
        have keep : ∀ w7, Kp (· = n_3) w5 w7 → w7.heap[n_3]? = some (.cells (bools (nxF els (at8 s k) (runF els s k) i) (els.length + 1)) 4 (0, 0)) → (runF els s k i && elH els i (at8 s k)) = false →
            w7.heap[n_3]? = some (.cells (bools (nxF els (at8 s k) (runF els s k) (i + 1)) (els.length + 1)) 4 (0, 0)) ∧ Kp (· = n_3) w5 w7 := fun w7 h1 h2 h3 => by
          refine ⟨?_, h1⟩
          rw [h2]
          congr 2
          apply bools_congr
          intro j _
          rw [step j, if_neg (fun h => by rw [h3] at h; exact absurd h.2 (by decide))]
        show (0 ≤ (i : Int) ∧ (i : Int) < (els.length : Int)) ∧ _
        refine ⟨⟨by omega, by omega⟩, x.val, by rw [f0]; exact hc6, ?_⟩
        show (0 ≤ (i : Int) ∧ (i : Int) < ((els.length + 1 : Nat) : Int)) ∧ _
        refine ⟨⟨by omega, by omega⟩, _, by rw [f0, Nat.zero_add]; exact cell_at hg6 (bools_get _ _ _ (by omega)), ?_⟩
        rw [Bool.not_not]
        refine bsp_intro (fun hr => ⟨(stands_any x (at8 s k) w6).mono fun e w7 ⟨he, hk7⟩ => ⟨_, he, ?_⟩⟩) (fun hr => keep w6 hk6 h6 (by rw [hr]; rfl))
        have h7 := hk7.blk h6 (fun h => h)
        have hk7' : Kp (· = n_3) w5 w7 := hk6.trans (hk7.mono fun _ _ h => h.elim)
        refine bsp_intro (fun hh => keep w7 hk7' h7 (by rw [hr, hha]; simpa using hh)) (fun hh => ⟨(isStar_any x w7).mono fun e w8 ⟨he, hk8⟩ => ⟨_, he, ?_⟩⟩)
        have hh : hasB x.chars (at8 s k) = true := by simpa using hh
        have h8 := hk8.blk h7 (fun h => h)
        have hk8' : Kp (· = n_3) w5 w8 := hk7'.trans (hk8.mono fun _ _ h => h.elim)
        refine bsp_intro (fun hs8 => ⟨⟨by omega, by omega⟩, by rw [f0, Nat.zero_add]; exact cell_wr h8 (by rw [bools_size]; omega), fun w9 hp9 => ⟨?_, hk8'.trans hp9.kp⟩⟩)
          (fun hs8 => ⟨by rw [f1]; exact ⟨by omega, by omega⟩, by rw [f1, f2, Nat.zero_add]; exact cell_wr h8 (by rw [bools_size]; omega), fun w9 hp9 => ⟨?_, hk8'.trans hp9.kp⟩⟩)
        · have := hp9.block h8
          rw [f0, Nat.zero_add] at this
          rw [this]
          congr 2
          apply bools_put
          intro j _
          rw [step j]
          by_cases hj : j = i
          · rw [if_pos ⟨.inl ⟨by rw [hst]; exact hs8, hj⟩, by rw [hr, hha, hh]; rfl⟩, if_pos hj]
          · rw [if_neg (fun h => ?_), if_neg hj]
            rcases h.1 with h | h
            · exact hj h.2
            · rw [hst, hs8] at h; exact absurd h.1 (by decide)
        · have := hp9.block h8
          rw [f1, f2, Nat.zero_add] at this
          rw [this]
          congr 2
          apply bools_put
          intro j _
          rw [step j]
          by_cases hj : j = i + 1
          · rw [if_pos ⟨.inr ⟨by rw [hst]; exact hs8, hj⟩, by rw [hr, hha, hh]; rfl⟩, if_pos hj]
          · rw [if_neg (fun h => ?_), if_neg hj]
            rcases h.1 with h | h
            · rw [hst, hs8] at h; exact absurd h.1 (by decide)
            · exact hj h.2
      · have hge6 : ¬ i < els.length := by simpa using hge6
        obtain rfl : i = els.length := by omega
        have hp6 := hp0.kp hw6 (fun k hk _ h => h)
        refine ⟨(spread_any hp6 hl h6 (fun k hk e => by omega) _).mono fun e w7 ⟨he, hg7, hk7⟩ => ⟨he, ?_⟩⟩
        have hw7 : K0 w w7 := hw6.fresh hk7 (fun i hi e => by omega)
        have f1 : IntKind.i64.wrap ((k : Int) + 1) = ((k + 1 : Nat) : Int) := by rw [wr64 (by omega) (by omega)]; omega
        rw [f1]
        refine ⟨⟨n_3, k + 1, rfl, by omega, hn3, by omega, ?_, hk7.blk hb6 (fun e => by omega), hw7⟩, by simp; omega⟩
        rw [hg7]
        congr 2
        apply bools_congr
        intro j hj
        exact spF_congr j fun i hi => nxF_end els _ _ i (by omega)
  · have hge : ¬ k < s.size := by simpa using hge
    obtain rfl : k = s.size := by omega
    refine ⟨p', els.length, c', by rw [Nat.zero_add]; exact cell_at hb' rfl, ?_⟩
    show (0 ≤ (els.length : Int) ∧ (els.length : Int) < ((els.length + 1 : Nat) : Int)) ∧ _
    have f0 : (els.length : Int).toNat = els.length := by omega
    refine ⟨⟨by omega, by omega⟩, _, by rw [f0, Nat.zero_add]; exact cell_at hgw (bools_get _ _ _ (by omega)), rfl, hw'⟩

end Go.Proofs.Ytmjanmffnblcoaa

/- Chapter 42 (expiry), plain: rules, days, the plan, and that the reference's plan is the same. No program, no condition. -/
namespace Go.Proofs.Ytmjanmffnblcoaa
open Go.Sort

/-- A rule. -/
structure Rl where
  pat : ByteArray
  lo : Int
  hi : Int
/-- An article. -/
structure Ar where
  id : List Int
  date : Int
  ar : Int
  gs : List ByteArray
  by_ : Int
  ct : Int
  holds : List (List Int)
  wd : Bool
def rl1 (r : Rl) : Int := match compileR r.pat with
  | .inr _ => 3
  | .inl _ => if r.lo < 0 ∨ r.hi < r.lo ∨ 36500 < r.hi then 2 else 0
def rlF : List Rl → Int
  | [] => 0
  | r :: l => if rl1 r ≠ 0 then rl1 r else rlF l
def chkR (l : List Rl) : Int := if 64 < l.length then 9 else rlF l
def elsOf (r : Rl) : List El := match compileR r.pat with | .inl e => e | .inr _ => []
def hitR (r : Rl) (g : ByteArray) : Bool := matchB (elsOf r) g
def ofR (l : List Rl) (g : ByteArray) : Int × Int := l.foldl (fun x r => if hitR r g = true then (r.lo, r.hi) else x) (0, 36500)
theorem ofR_snoc (l : List Rl) (r : Rl) (g : ByteArray) : ofR (l ++ [r]) g = if hitR r g = true then (r.lo, r.hi) else ofR l g := by
  unfold ofR; rw [List.foldl_append]; rfl
def daysF (l : List Rl) : List ByteArray → Int × Int → Int × Int
  | [], x => x
  | g :: gs, x => daysF l gs (max x.1 (ofR l g).1, max x.2 (ofR l g).2)
def daysR (l : List Rl) (gs : List ByteArray) : Int × Int := if gs = [] then (0, 36500) else daysF l gs (0, 0)
theorem rlF_all : ∀ {l : List Rl}, rlF l = 0 → ∀ r ∈ l, 0 ≤ r.lo ∧ r.lo ≤ r.hi ∧ r.hi ≤ 36500
  | [], _, r, hr => by cases hr
  | x :: l, h, r, hr => by
    unfold rlF at h
    split at h
    · rename_i h1; exact absurd h h1
    · rename_i h1
      have h1 : rl1 x = 0 := by omega
      rcases List.mem_cons.1 hr with e | e
      · subst e
        unfold rl1 at h1
        split at h1
        · cases h1
        · split at h1
          · cases h1
          · omega
      · exact rlF_all h r e
theorem ofR_bd : ∀ {l : List Rl}, (∀ r ∈ l, 0 ≤ r.lo ∧ r.lo ≤ r.hi ∧ r.hi ≤ 36500) → ∀ g, 0 ≤ (ofR l g).1 ∧ (ofR l g).1 ≤ (ofR l g).2 ∧ (ofR l g).2 ≤ 36500 := by
  intro l h g
  unfold ofR
  have key : ∀ (l : List Rl) (x : Int × Int), (∀ r ∈ l, 0 ≤ r.lo ∧ r.lo ≤ r.hi ∧ r.hi ≤ 36500) → (0 ≤ x.1 ∧ x.1 ≤ x.2 ∧ x.2 ≤ 36500) → 0 ≤ (l.foldl (fun x r => if hitR r g = true then (r.lo, r.hi) else x) x).1 ∧ (l.foldl (fun x r => if hitR r g = true then (r.lo, r.hi) else x) x).1 ≤ (l.foldl (fun x r => if hitR r g = true then (r.lo, r.hi) else x) x).2 ∧ (l.foldl (fun x r => if hitR r g = true then (r.lo, r.hi) else x) x).2 ≤ 36500 := by
    intro l
    induction l with
    | nil => intro x _ hx; exact hx
    | cons r l ih =>
      intro x hl hx
      rw [List.foldl_cons]
      refine ih _ (fun y hy => hl y (List.mem_cons_of_mem _ hy)) ?_
      split
      · exact hl r List.mem_cons_self
      · exact hx
  exact key l (0, 36500) h (by decide)
theorem daysF_bd {l : List Rl} (h : ∀ r ∈ l, 0 ≤ r.lo ∧ r.lo ≤ r.hi ∧ r.hi ≤ 36500) : ∀ (gs : List ByteArray) (x : Int × Int), 0 ≤ x.1 ∧ x.1 ≤ x.2 ∧ x.2 ≤ 36500 → 0 ≤ (daysF l gs x).1 ∧ (daysF l gs x).1 ≤ (daysF l gs x).2 ∧ (daysF l gs x).2 ≤ 36500
  | [], x, hx => hx
  | g :: gs, x, hx => by
    have := ofR_bd h g
    exact daysF_bd h gs _ ⟨by simp only; omega, by simp only; omega, by simp only; omega⟩
theorem daysR_bd {l : List Rl} (h : ∀ r ∈ l, 0 ≤ r.lo ∧ r.lo ≤ r.hi ∧ r.hi ≤ 36500) (gs : List ByteArray) : 0 ≤ (daysR l gs).1 ∧ (daysR l gs).1 ≤ (daysR l gs).2 ∧ (daysR l gs).2 ≤ 36500 := by
  unfold daysR
  split
  · decide
  · exact daysF_bd h gs _ (by decide)

/-! ### The plan -/
def permK (k : Int) : Bool := k == 3 || k == 4 || k == 5
def fixB (now : Int) (a : Ar) : Bool := permK a.ct || ((a.ct != 0 || !a.holds.isEmpty) && decide (now ≤ a.date + 20160))
def overB (l : List Rl) (now : Int) (a : Ar) : Bool := decide (a.ar + (daysR l a.gs).2 * 1440 ≤ now)
def mayB (l : List Rl) (now : Int) (a : Ar) : Bool := decide (a.ar + (daysR l a.gs).1 * 1440 ≤ now)
def hereB (here : List Ar) (h : List Int) : Bool := here.any fun b => decide (b.id = h)
def protB (now : Int) (here : List Ar) (a : Ar) : Bool := fixB now a || a.holds.any (hereB here)
def totS (here : List Ar) : Int := (here.map (·.by_)).sum
def reasB (l : List Rl) (now budget tot : Int) (k : Nat) (a : Ar) : Bool := match k with
  | 1 => a.wd && a.ct == 0
  | 2 => overB l now a
  | _ => decide (budget < tot) && mayB l now a
def goB (l : List Rl) (now budget : Int) (here : List Ar) (k : Nat) (a : Ar) : Bool := reasB l now budget (totS here) k a && !protB now here a
/-- What goes next, and why. -/
def pickS (l : List Rl) (now budget : Int) (here : List Ar) : Option (Ar × Nat) := match here.find? (goB l now budget here 1) with
  | some a => some (a, 1)
  | none => match here.find? (goB l now budget here 2) with
    | some a => some (a, 2)
    | none => match here.find? (goB l now budget here 3) with
      | some a => some (a, 3)
      | none => none
def without (here : List Ar) (i : List Int) : List Ar := here.filter fun b => !decide (b.id = i)
def planS (l : List Rl) (now budget : Int) : Nat → List Ar → List (List Int × Nat) × List Ar
  | 0, here => ([], here)
  | n + 1, here => match pickS l now budget here with
    | none => ([], here)
    | some (a, k) => ((a.id, k) :: (planS l now budget n (without here a.id)).1, (planS l now budget n (without here a.id)).2)
def idU (i : List Int) : List UInt8 := i.map fun x => x.toNat.toUInt8
def keyA (a : Ar) : Key := (a.ar, idU a.id)
/-- Identities are bytes. -/
def idOK (i : List Int) : Prop := i.length = 32 ∧ ∀ x ∈ i, 0 ≤ x ∧ x ≤ 255
theorem idU_inj {i j : List Int} (hi : ∀ x ∈ i, 0 ≤ x ∧ x ≤ 255) (hj : ∀ x ∈ j, 0 ≤ x ∧ x ≤ 255) (h : idU i = idU j) : i = j := by
  have key : ∀ l : List Int, (∀ x ∈ l, 0 ≤ x ∧ x ≤ 255) → (idU l).map (fun b => (b.toNat : Int)) = l := fun l hl => by
    unfold idU
    rw [List.map_map]
    conv => rhs; rw [← List.map_id l]
    refine List.map_congr_left fun x hx => ?_
    have := hl x hx
    have e : x.toNat < 256 := by omega
    simp [Nat.toUInt8, Nat.mod_eq_of_lt e]
    omega
  rw [← key i hi, ← key j hj, h]
abbrev srtA (l : List Ar) : Prop := (l.map keyA).Pairwise fun x y => ¬ cfK y x < 0
/-- One is the oldest. -/
theorem first_min {P : Ar → Bool} : ∀ {hs : List Ar} {a : Ar}, srtA hs → hs.find? P = some a → a ∈ hs ∧ P a = true ∧ ∀ b ∈ hs, P b = true → ¬ cfK (keyA b) (keyA a) < 0
  | [], a, _, h => by simp at h
  | x :: hs, a, hsrt, h => by
    have hsrt' : srtA hs := (List.pairwise_cons.1 hsrt).2
    have hx := (List.pairwise_cons.1 hsrt).1
    rw [List.find?_cons] at h
    split at h
    · rename_i hp
      simp at h; subst h
      refine ⟨List.mem_cons_self, hp, fun b hb _ => ?_⟩
      rcases List.mem_cons.1 hb with e | e
      · subst e; have := cfK_ord.self (keyA b); omega
      · exact hx _ (List.mem_map.2 ⟨b, e, rfl⟩)
    · rename_i hp
      obtain ⟨h1, h2, h3⟩ := first_min hsrt' h
      refine ⟨List.mem_cons_of_mem _ h1, h2, fun b hb hpb => ?_⟩
      rcases List.mem_cons.1 hb with e | e
      · subst e; rw [hpb] at hp; cases hp
      · exact h3 b e hpb
/-- The reference's choice: the oldest one. -/
def bestF (P : Ar → Bool) : List Ar → Option Ar → Option Ar
  | [], b => b
  | a :: r, none => bestF P r (if P a = true then some a else none)
  | a :: r, some b => bestF P r (if P a = true ∧ cfK (keyA a) (keyA b) < 0 then some a else some b)
theorem best_min {P : Ar → Bool} : ∀ (h : List Ar) (b : Option Ar), (∀ x, b = some x → P x = true) →
    match bestF P h b with
    | none => b = none ∧ ∀ x ∈ h, P x = false
    | some a => (a ∈ h ∨ b = some a) ∧ P a = true ∧ (∀ x ∈ h, P x = true → ¬ cfK (keyA x) (keyA a) < 0) ∧ ∀ x, b = some x → ¬ cfK (keyA x) (keyA a) < 0
  | [], none, _ => ⟨rfl, fun x hx => by cases hx⟩
  | [], some b, hb => ⟨.inr rfl, hb b rfl, (fun x hx => by cases hx), fun x hx => by cases hx; have := cfK_ord.self (keyA b); omega⟩
  | a :: r, none, _ => by
    simp only [bestF]
    have hpre : ∀ x, (if P a = true then some a else none) = some x → P x = true := fun x hx => by
      split at hx
      · cases hx; assumption
      · cases hx
    have ih := best_min r (if P a = true then some a else none) hpre
    split at ih
    · rename_i he
      refine ⟨trivial, fun x hx => ?_⟩
      rcases List.mem_cons.1 hx with e | e
      · subst e
        have := ih.1
        split at this
        · cases this
        · rename_i hp; simpa using hp
      · exact ih.2 x e
    · rename_i m he
      obtain ⟨h1, h2, h3, h4⟩ := ih
      refine ⟨.inl ?_, h2, fun x hx hp => ?_, fun x hx => by cases hx⟩
      · rcases h1 with h1 | h1
        · exact List.mem_cons_of_mem _ h1
        · split at h1
          · simp at h1; subst h1; exact List.mem_cons_self
          · cases h1
      · rcases List.mem_cons.1 hx with e | e
        · subst e
          exact h4 x (by rw [if_pos hp])
        · exact h3 x e hp
  | a :: r, some b, hb => by
    simp only [bestF]
    have hpb := hb b rfl
    have hpre : ∀ x, (if P a = true ∧ cfK (keyA a) (keyA b) < 0 then some a else some b) = some x → P x = true := fun x hx => by
      split at hx
      · rename_i h; cases hx; exact h.1
      · cases hx; exact hpb
    have ih := best_min r (if P a = true ∧ cfK (keyA a) (keyA b) < 0 then some a else some b) hpre
    split at ih
    · rename_i he
      have := ih.1
      split at this <;> cases this
    · rename_i m he
      obtain ⟨h1, h2, h3, h4⟩ := ih
      have hord := cfK_ord
      by_cases hc : P a = true ∧ cfK (keyA a) (keyA b) < 0
      · have h4a := h4 a (by rw [if_pos hc])
        rw [if_pos hc] at h1
        refine ⟨.inl ?_, h2, fun x hx hp => ?_, fun x hx => ?_⟩
        · rcases h1 with h1 | h1
          · exact List.mem_cons_of_mem _ h1
          · simp at h1; subst h1; exact List.mem_cons_self
        · rcases List.mem_cons.1 hx with e | e
          · subst e; exact h4a
          · exact h3 x e hp
        · cases hx
          intro hlt
          exact h4a (hord.tlt _ _ _ hc.2 hlt)
      · have h4b := h4 b (by rw [if_neg hc])
        rw [if_neg hc] at h1
        refine ⟨?_, h2, fun x hx hp => ?_, fun x hx => by cases hx; exact h4b⟩
        · rcases h1 with h1 | h1
          · exact .inl (List.mem_cons_of_mem _ h1)
          · exact .inr h1
        · rcases List.mem_cons.1 hx with e | e
          · subst e
            intro hlt
            have hn : ¬ cfK (keyA x) (keyA b) < 0 := fun h => hc ⟨hp, h⟩
            -- b ≤ x < m, so b < m
            have a1 := hord.anti (keyA x) (keyA b)
            rcases Int.lt_or_eq_of_le (show cfK (keyA b) (keyA x) ≤ 0 by have := hord.anti (keyA b) (keyA x); omega) with q | q
            · exact h4b (hord.tlt _ _ _ q hlt)
            · exact h4b (hord.el _ _ _ q hlt)
          · exact h3 x e hp

theorem nodup_inj {α β : Type} {f : α → β} : ∀ {l : List α}, (l.map f).Nodup → ∀ {a b : α}, a ∈ l → b ∈ l → f a = f b → a = b
  | [], _, a, b, ha, _, _ => by cases ha
  | x :: l, h, a, b, ha, hb, e => by
    rw [List.map_cons, List.nodup_cons] at h
    rcases List.mem_cons.1 ha with h1 | h1 <;> rcases List.mem_cons.1 hb with h2 | h2
    · rw [h1, h2]
    · subst h1; exact absurd (List.mem_map.2 ⟨b, h2, e.symm⟩) h.1
    · subst h2; exact absurd (List.mem_map.2 ⟨a, h1, e⟩) h.1
    · exact nodup_inj h.2 h1 h2 e
/-- Articles that can be told apart. -/
structure ArsOK (h : List Ar) : Prop where
  nd : (h.map (·.id)).Nodup
  ok : ∀ a ∈ h, ∀ x ∈ a.id, 0 ≤ x ∧ x ≤ 255
theorem ArsOK.perm {h h' : List Ar} (k : ArsOK h) (hp : h.Perm h') : ArsOK h' := ⟨(hp.map _).nodup_iff.1 k.nd, fun a ha => k.ok a (hp.mem_iff.2 ha)⟩
theorem ArsOK.sub {h h' : List Ar} (k : ArsOK h) (hs : h'.Sublist h) : ArsOK h' := ⟨k.nd.sublist (hs.map _), fun a ha => k.ok a (hs.subset ha)⟩
theorem ArsOK.inj {h : List Ar} (k : ArsOK h) {a b : Ar} (ha : a ∈ h) (hb : b ∈ h) (e : keyA a = keyA b) : a = b :=
  nodup_inj k.nd ha hb (idU_inj (k.ok a ha) (k.ok b hb) (congrArg (·.2) e))
theorem best_first {P : Ar → Bool} {h hs : List Ar} (hp : hs.Perm h) (hsrt : srtA hs) (hok : ArsOK h) : bestF P h none = hs.find? P := by
  have hb := best_min (P := P) h none (fun x hx => by cases hx)
  split at hb
  · rename_i he
    rw [he]
    refine (List.find?_eq_none.2 fun x hx => ?_).symm
    have := hb.2 x (hp.mem_iff.1 hx)
    simp [this]
  · rename_i a he
    obtain ⟨h1, h2, h3, _⟩ := hb
    have ha : a ∈ h := h1.resolve_right (fun e => by cases e)
    cases hf : hs.find? P with
    | none =>
      have := List.find?_eq_none.1 hf a (hp.mem_iff.2 ha)
      rw [h2] at this; simp at this
    | some b =>
      obtain ⟨b1, b2, b3⟩ := first_min hsrt hf
      have hbh := hp.mem_iff.1 b1
      have c1 := h3 b hbh b2
      have c2 := b3 a (hp.mem_iff.2 ha) h2
      have := cfK_ord.anti (keyA a) (keyA b)
      rw [he, hok.inj ha hbh (cfK_zero (by omega))]
theorem tot_perm {l l' : List Ar} (h : l.Perm l') : totS l = totS l' := by
  unfold totS
  induction h with
  | nil => rfl
  | cons x _ ih => simp only [List.map_cons, List.sum_cons, ih]
  | swap x y l => simp only [List.map_cons, List.sum_cons]; omega
  | trans _ _ i1 i2 => exact i1.trans i2
theorem here_perm {l l' : List Ar} (h : l.Perm l') (i : List Int) : hereB l i = hereB l' i := by
  unfold hereB
  rw [Bool.eq_iff_iff, List.any_eq_true, List.any_eq_true]
  constructor
  · rintro ⟨x, hx, e⟩; exact ⟨x, h.mem_iff.1 hx, e⟩
  · rintro ⟨x, hx, e⟩; exact ⟨x, h.mem_iff.2 hx, e⟩
theorem go_perm {l : List Rl} {now budget : Int} {h h' : List Ar} (hp : h.Perm h') (k : Nat) : goB l now budget h k = goB l now budget h' k := by
  funext a
  unfold goB protB
  rw [tot_perm hp, show hereB h = hereB h' from funext (here_perm hp)]
def pickR (l : List Rl) (now budget : Int) (here : List Ar) : Option (Ar × Nat) := match bestF (goB l now budget here 1) here none with
  | some a => some (a, 1)
  | none => match bestF (goB l now budget here 2) here none with
    | some a => some (a, 2)
    | none => match bestF (goB l now budget here 3) here none with
      | some a => some (a, 3)
      | none => none
theorem pick_eq {l : List Rl} {now budget : Int} {h hs : List Ar} (hp : hs.Perm h) (hsrt : srtA hs) (hok : ArsOK h) : pickR l now budget h = pickS l now budget hs := by
  unfold pickR pickS
  rw [best_first hp hsrt hok, best_first hp hsrt hok, best_first hp hsrt hok, go_perm hp.symm 1, go_perm hp.symm 2, go_perm hp.symm 3]
theorem pick_mem {l : List Rl} {now budget : Int} {hs : List Ar} {a : Ar} {k : Nat} (h : pickS l now budget hs = some (a, k)) : a ∈ hs ∧ goB l now budget hs k a = true ∧ (k = 1 ∨ k = 2 ∨ k = 3) := by
  unfold pickS at h
  split at h
  · rename_i b hb; cases h; exact ⟨List.mem_of_find?_eq_some hb, List.find?_some hb, .inl rfl⟩
  · split at h
    · rename_i b hb; cases h; exact ⟨List.mem_of_find?_eq_some hb, List.find?_some hb, .inr (.inl rfl)⟩
    · split at h
      · rename_i b hb; cases h; exact ⟨List.mem_of_find?_eq_some hb, List.find?_some hb, .inr (.inr rfl)⟩
      · cases h
theorem pick_none {l : List Rl} {now budget : Int} {hs : List Ar} (h : pickS l now budget hs = none) {k : Nat} (hk : k = 1 ∨ k = 2 ∨ k = 3) {a : Ar} (ha : a ∈ hs) : goB l now budget hs k a = false := by
  unfold pickS at h
  split at h
  · cases h
  · rename_i h1
    split at h
    · cases h
    · rename_i h2
      split at h
      · cases h
      · rename_i h3
        rcases hk with rfl | rfl | rfl
        · simpa using List.find?_eq_none.1 h1 a ha
        · simpa using List.find?_eq_none.1 h2 a ha
        · simpa using List.find?_eq_none.1 h3 a ha
def refP (l : List Rl) (now budget : Int) : Nat → List Ar → List (List Int × Nat) × List Ar
  | 0, here => ([], here)
  | n + 1, here => match pickR l now budget here with
    | none => ([], here)
    | some (a, k) => ((a.id, k) :: (refP l now budget n (without here a.id)).1, (refP l now budget n (without here a.id)).2)
theorem without_sub (h : List Ar) (i : List Int) : (without h i).Sublist h := List.filter_sublist
theorem srt_sub {h h' : List Ar} (hs : srtA h) (k : h'.Sublist h) : srtA h' := List.Pairwise.sublist (k.map _) hs
/-- The reference's plan is the plan. -/
theorem ref_plan {l : List Rl} {now budget : Int} : ∀ (n : Nat) (h hs : List Ar), hs.Perm h → srtA hs → ArsOK h → (refP l now budget n h).1 = (planS l now budget n hs).1 ∧ (planS l now budget n hs).2.Perm (refP l now budget n h).2
  | 0, h, hs, hp, _, _ => ⟨rfl, hp⟩
  | n + 1, h, hs, hp, hsrt, hok => by
    simp only [refP, planS, pick_eq hp hsrt hok]
    cases hk : pickS l now budget hs with
    | none => exact ⟨rfl, hp⟩
    | some ak =>
      obtain ⟨a, k⟩ := ak
      obtain ⟨h1, h2⟩ := ref_plan (l := l) (now := now) (budget := budget) n (without h a.id) (without hs a.id) (hp.filter _) (srt_sub hsrt (without_sub _ _)) (hok.sub (without_sub _ _))
      exact ⟨by simp only [h1], h2⟩
theorem without_len {h : List Ar} (hok : ArsOK h) {a : Ar} (ha : a ∈ h) : (without h a.id).length + 1 = h.length := by
  induction h with
  | nil => cases ha
  | cons x r ih =>
    have hnd := hok.nd
    rw [List.map_cons, List.nodup_cons] at hnd
    unfold without at ih ⊢
    rw [List.filter_cons]
    by_cases e : x.id = a.id
    · have hall : r.filter (fun b => !decide (b.id = a.id)) = r := List.filter_eq_self.2 fun b hb => by
        have : ¬ b.id = a.id := fun h => hnd.1 (List.mem_map.2 ⟨b, hb, h.trans e.symm⟩)
        simp [this]
      rw [if_neg (by simp [e]), hall]; simp
    · have ha' : a ∈ r := by
        rcases List.mem_cons.1 ha with h | h
        · subst h; exact absurd rfl e
        · exact h
      rw [if_pos (by simp [e]), List.length_cons, List.length_cons, ih (hok.sub (List.sublist_cons_self x r)) ha']
/-- The plan and what stays. -/
theorem plan_stays {l : List Rl} {now budget : Int} : ∀ (n : Nat) (hs : List Ar), ArsOK hs → (planS l now budget n hs).2 = hs.filter (fun a => !decide (a.id ∈ (planS l now budget n hs).1.map (·.1))) ∧ (planS l now budget n hs).1.length + (planS l now budget n hs).2.length = hs.length
  | 0, hs, _ => ⟨(List.filter_eq_self.2 (fun _ _ => by simp [planS])).symm, by simp [planS]⟩
  | n + 1, hs, hok => by
    cases hk : pickS l now budget hs with
    | none =>
      have e : planS l now budget (n + 1) hs = ([], hs) := by simp only [planS, hk]
      rw [e]
      exact ⟨(List.filter_eq_self.2 (fun _ _ => by simp)).symm, by simp⟩
    | some ak =>
      obtain ⟨a, k⟩ := ak
      obtain ⟨h1, h2⟩ := plan_stays (l := l) (now := now) (budget := budget) n (without hs a.id) (hok.sub (without_sub _ _))
      have ha := (pick_mem hk).1
      have hl := without_len hok ha
      have e : planS l now budget (n + 1) hs = ((a.id, k) :: (planS l now budget n (without hs a.id)).1, (planS l now budget n (without hs a.id)).2) := by simp only [planS, hk]
      rw [e]
      refine ⟨?_, by simp only [List.length_cons]; omega⟩
      simp only
      rw [h1]
      unfold without
      rw [List.filter_filter]
      refine List.filter_congr fun x _ => ?_
      simp only [List.map_cons, List.mem_cons]
      by_cases e : x.id = a.id
      · simp [e]
      · simp [e]
theorem plan_end {l : List Rl} {now budget : Int} : ∀ (n : Nat) (hs : List Ar), ArsOK hs → hs.length ≤ n → pickS l now budget (planS l now budget n hs).2 = none
  | 0, hs, _, hl => by
    have : hs = [] := List.eq_nil_of_length_eq_zero (by omega)
    subst this
    rfl
  | n + 1, hs, hok, hl => by
    simp only [planS]
    cases hk : pickS l now budget hs with
    | none => exact hk
    | some ak =>
      obtain ⟨a, k⟩ := ak
      have := without_len hok (pick_mem hk).1
      exact plan_end n (without hs a.id) (hok.sub (without_sub _ _)) (by omega)
theorem here_sub {h h' : List Ar} (hs : ∀ a ∈ h', a ∈ h) {i : List Int} (hn : hereB h i = false) : hereB h' i = false := by
  unfold hereB at hn ⊢
  rw [List.any_eq_false] at hn ⊢
  exact fun x hx => hn x (hs x hx)
/-- What goes may go. -/
theorem plan_safe {l : List Rl} {now budget : Int} (hl : ∀ r ∈ l, 0 ≤ r.lo ∧ r.lo ≤ r.hi ∧ r.hi ≤ 36500) : ∀ (n : Nat) (hs : List Ar), ArsOK hs → ∀ a ∈ hs, a.id ∈ (planS l now budget n hs).1.map (·.1) →
    permK a.ct = false ∧ (a.wd = true ∨ mayB l now a = true) ∧ ∀ h ∈ a.holds, hereB (planS l now budget n hs).2 h = false
  | 0, hs, _, a, _, h => by simp [planS] at h
  | n + 1, hs, hok, a, ha, h => by
    simp only [planS] at h ⊢
    cases hk : pickS l now budget hs with
    | none => rw [hk] at h; simp at h
    | some bk =>
      obtain ⟨b, k⟩ := bk
      rw [hk] at h
      simp only [List.map_cons, List.mem_cons] at h
      have hsub := (plan_stays (l := l) (now := now) (budget := budget) n (without hs b.id) (hok.sub (without_sub _ _))).1
      by_cases e : a.id = b.id
      · obtain ⟨hb, hgo, hk3⟩ := pick_mem hk
        have : a = b := nodup_inj hok.nd ha hb e
        subst this
        unfold goB protB at hgo
        simp only [Bool.and_eq_true, Bool.not_eq_true', Bool.or_eq_false_iff] at hgo
        obtain ⟨h1, h2, h3⟩ := hgo
        refine ⟨?_, ?_, fun i hi => ?_⟩
        · unfold fixB at h2
          simp only [Bool.or_eq_false_iff] at h2
          exact h2.1
        · have hd := daysR_bd hl a.gs
          rcases hk3 with rfl | rfl | rfl
          · unfold reasB at h1; simp at h1; exact .inl h1.1
          · unfold reasB overB at h1; simp at h1; refine .inr ?_; unfold mayB; simp; omega
          · unfold reasB at h1; simp at h1; exact .inr h1.2
        · have hno := List.any_eq_false.1 h3 i hi
          refine here_sub (fun x hx => ?_) (by simpa using hno)
          simp only at hx
          rw [hsub] at hx
          exact (List.mem_filter.1 (List.mem_filter.1 hx).1).1
      · have ha' : a ∈ without hs b.id := List.mem_filter.2 ⟨ha, by simp [e]⟩
        have h : a.id ∈ (planS l now budget n (without hs b.id)).1.map (·.1) := h.resolve_left e
        exact plan_safe hl n (without hs b.id) (hok.sub (without_sub _ _)) a ha' h

end Go.Proofs.Ytmjanmffnblcoaa

/- Maps in the program's memory: their entries as a list, looked up, written, struck. Generic: no program, no condition. -/
namespace Go.Proofs.Ytmjanmffnblcoaa
open Go.RowKit Go.Maps

section
variable {α : Type} [DecidableEq α]
def aget {β : Type} : List (α × β) → α → Option β
  | [], _ => none
  | (b, v) :: r, a => if b = a then some v else aget r a
def aset {β : Type} : List (α × β) → α → β → List (α × β)
  | [], a, v => [(a, v)]
  | (b, u) :: r, a, v => if b = a then (a, v) :: r else (b, u) :: aset r a v
def adel {β : Type} (l : List (α × β)) (a : α) : List (α × β) := l.filter fun p => !decide (p.1 = a)
variable {β : Type}
theorem aget_aset (l : List (α × β)) (a c : α) (v : β) : aget (aset l a v) c = if a = c then some v else aget l c := by
  induction l with
  | nil => simp [aset, aget]
  | cons p r ih =>
    obtain ⟨b, u⟩ := p
    unfold aset
    by_cases h : b = a
    · subst h
      simp only [if_pos]
      unfold aget
      split <;> rfl
    · rw [if_neg h]
      simp only [aget]
      rw [ih]
      by_cases h1 : b = c
      · subst h1
        rw [if_pos rfl, if_neg (fun e => h e.symm), if_pos rfl]
      · rw [if_neg h1, if_neg h1]
theorem aget_none {l : List (α × β)} {a : α} : aget l a = none ↔ ∀ p ∈ l, p.1 ≠ a := by
  induction l with
  | nil => simp [aget]
  | cons p r ih =>
    obtain ⟨b, u⟩ := p
    unfold aget
    by_cases h : b = a
    · simp [h]
    · rw [if_neg h, ih]
      simp [h]
theorem aget_mem {l : List (α × β)} {a : α} {v : β} (h : aget l a = some v) : (a, v) ∈ l := by
  induction l with
  | nil => simp [aget] at h
  | cons p r ih =>
    obtain ⟨b, u⟩ := p
    unfold aget at h
    by_cases h' : b = a
    · rw [if_pos h'] at h
      simp at h; subst h; subst h'; simp
    · rw [if_neg h'] at h
      exact List.mem_cons_of_mem _ (ih h)
theorem aget_at {l : List (α × β)} (hd : l.Pairwise fun p q => p.1 ≠ q.1) {a : α} {v : β} (h : (a, v) ∈ l) : aget l a = some v := by
  induction l with
  | nil => cases h
  | cons p r ih =>
    obtain ⟨b, u⟩ := p
    obtain ⟨h1, h2⟩ := List.pairwise_cons.1 hd
    unfold aget
    rcases List.mem_cons.1 h with e | e
    · cases e; rw [if_pos rfl]
    · rw [if_neg (h1 _ e)]; exact ih h2 e
theorem aset_new {l : List (α × β)} {a : α} {v : β} (h : ∀ p ∈ l, p.1 ≠ a) : aset l a v = l ++ [(a, v)] := by
  induction l with
  | nil => rfl
  | cons p r ih =>
    obtain ⟨b, u⟩ := p
    unfold aset
    rw [if_neg (h (b, u) (by simp)), ih fun q hq => h q (by simp [hq])]
    rfl
theorem aset_old {l : List (α × β)} (hd : l.Pairwise fun p q => p.1 ≠ q.1) {a : α} {v u : β} {j : Nat} (hj : l[j]? = some (a, u)) : aset l a v = l.set j (a, v) := by
  induction l generalizing j with
  | nil => simp at hj
  | cons p r ih =>
    obtain ⟨b, x⟩ := p
    obtain ⟨h1, h2⟩ := List.pairwise_cons.1 hd
    unfold aset
    cases j with
    | zero =>
      simp at hj
      rw [if_pos hj.1]; rfl
    | succ j =>
      have hj' : r[j]? = some (a, u) := by simpa using hj
      rw [if_neg (h1 _ (List.mem_of_getElem? hj')), ih h2 hj']
      rfl
theorem aset_keys {l : List (α × β)} (a : α) (v : β) : ∀ p ∈ aset l a v, p = (a, v) ∨ (p ∈ l ∧ p.1 ≠ a) ∨ (p ∈ l) := by
  induction l with
  | nil => intro p hp; simp [aset] at hp; exact .inl hp
  | cons q r ih =>
    obtain ⟨b, u⟩ := q
    intro p hp
    unfold aset at hp
    split at hp
    · rcases List.mem_cons.1 hp with h | h
      · exact .inl h
      · exact .inr (.inr (by simp [h]))
    · rcases List.mem_cons.1 hp with h | h
      · exact .inr (.inr (by simp [h]))
      · rcases ih p h with h | h | h
        · exact .inl h
        · exact .inr (.inr (by simp [h.1]))
        · exact .inr (.inr (by simp [h]))
theorem aset_dis {l : List (α × β)} (hd : l.Pairwise fun p q => p.1 ≠ q.1) (a : α) (v : β) : (aset l a v).Pairwise fun p q => p.1 ≠ q.1 := by
  induction l with
  | nil => simp [aset]
  | cons q r ih =>
    obtain ⟨b, u⟩ := q
    obtain ⟨h1, h2⟩ := List.pairwise_cons.1 hd
    unfold aset
    split
    · rename_i h
      subst h
      exact List.pairwise_cons.2 ⟨h1, h2⟩
    · rename_i h
      refine List.pairwise_cons.2 ⟨fun p hp => ?_, ih h2⟩
      rcases aset_keys a v p hp with e | e | e
      · rw [e]; exact h
      · exact h1 _ e.1
      · exact h1 _ e
theorem aset_length (l : List (α × β)) (a : α) (v : β) : (aset l a v).length ≤ l.length + 1 := by
  induction l with
  | nil => simp [aset]
  | cons q r ih => obtain ⟨b, u⟩ := q; unfold aset; split <;> simp; exact ih
end

/-- The entries with their values as they lie. -/
def amap {α β γ : Type} (f : β → γ) (l : List (α × β)) : List (α × γ) := l.map fun p => (p.1, f p.2)
theorem aset_amap {α β γ : Type} [DecidableEq α] (f : β → γ) (l : List (α × β)) (a : α) (v : β) : aset (amap f l) a (f v) = amap f (aset l a v) := by
  induction l with
  | nil => rfl
  | cons p r ih =>
    obtain ⟨b, u⟩ := p
    show aset ((b, f u) :: amap f r) a (f v) = _
    unfold aset
    split
    · rfl
    · rw [ih]; rfl
theorem aget_amap {α β γ : Type} [DecidableEq α] (f : β → γ) (l : List (α × β)) (a : α) : aget (amap f l) a = (aget l a).map f := by
  induction l with
  | nil => rfl
  | cons p r ih =>
    obtain ⟨b, u⟩ := p
    show aget ((b, f u) :: amap f r) a = _
    unfold aget
    split
    · rfl
    · rw [ih]

/-- Block b is a map with these entries, in the order of their making; a key lies as enc says. -/
structure MapB {α : Type} (P : Program) (k : TypeId) (enc : α → Value) (w : World) (b : Nat) (l : List (α × Value)) : Prop where
  blk : ∃ es clock, w.heap[b]? = some (.map es clock) ∧ es.toList.map (fun e => (e.key, e.val)) = l.map (fun p => (enc p.1, p.2))
  key : ∀ p ∈ l, ∃ kl, keyOf P k (enc p.1) = some kl
  dis : l.Pairwise fun p q => p.1 ≠ q.1

section
variable {α : Type} {P : Program} {k t e : TypeId} {enc : α → Value} {w w1 : World} {b : Nat} {l : List (α × Value)}
theorem MapB.lt (h : MapB P k enc w b l) : b < w.heap.size := by obtain ⟨es, c, hb, _⟩ := h.blk; exact block_lt hb
theorem MapB.kp {M : Nat → Prop} {w' : World} (h : MapB P k enc w b l) (hk : Kp M w w') (hm : ¬ M b) : MapB P k enc w' b l := by
  obtain ⟨es, c, hb, he⟩ := h.blk
  exact ⟨⟨es, c, hk.blk hb hm, he⟩, h.key, h.dis⟩
theorem MapB.drew (h : MapB P k enc w b l) : MapB P k enc w.drew b l := ⟨h.blk, h.key, h.dis⟩
theorem NewB.map {c : Nat} (h : NewB w (.map #[] c) b w1) : MapB P k enc w1 b ([] : List (α × Value)) :=
  ⟨⟨#[], c, h.block, rfl⟩, (fun p hp => by cases hp), .nil⟩

variable [DecidableEq α] (hinj : ∀ x y, enc x = enc y → x = y)
include hinj
theorem map_find (K : Keyed P k) {es : List MapEntry} (he : es.map (fun e => (e.key, e.val)) = l.map (fun p => (enc p.1, p.2))) (hkey : ∀ p ∈ l, ∃ kl, keyOf P k (enc p.1) = some kl) (hdis : l.Pairwise fun p q => p.1 ≠ q.1)
    {a : α} {kl : Lit} (ha : keyOf P k (enc a) = some kl) :
    (aget l a = none ∧ (Instr.findKey k (enc a) es).run P w = .ok none w) ∨
    (∃ j v u, aget l a = some v ∧ (Instr.findKey k (enc a) es).run P w = .ok (some (j, v)) w ∧ l[j]? = some (a, v) ∧ es[j]? = some u ∧ u.key = enc a) := by
  have hm : ∀ x ∈ es, ∃ p ∈ l, x.key = enc p.1 ∧ x.val = p.2 := fun x hx => by
    have : (x.key, x.val) ∈ es.map (fun e => (e.key, e.val)) := List.mem_map.2 ⟨x, hx, rfl⟩
    rw [he] at this
    obtain ⟨p, hp, e⟩ := List.mem_map.1 this
    simp at e
    exact ⟨p, hp, e.1.symm, e.2.symm⟩
  rcases K.find w ha es (fun x hx => by
    obtain ⟨p, hp, h1, _⟩ := hm x hx
    rw [h1]; exact hkey p hp) with ⟨h1, h2⟩ | ⟨j, u, h1, h2, h3⟩
  · refine .inl ⟨aget_none.2 fun p hp hpa => ?_, h1⟩
    have : (enc p.1, p.2) ∈ l.map (fun p => (enc p.1, p.2)) := List.mem_map.2 ⟨p, hp, rfl⟩
    rw [← he] at this
    obtain ⟨x, hx, e⟩ := List.mem_map.1 this
    simp at e
    exact h2 x hx (by rw [e.1, hpa])
  · have h4 : (es.map (fun e => (e.key, e.val)))[j]? = some (u.key, u.val) := by simp [h2]
    rw [he] at h4
    simp only [List.getElem?_map, Option.map_eq_some_iff] at h4
    obtain ⟨p, hp, e⟩ := h4
    simp at e
    obtain ⟨pa, pv⟩ := p
    have ea : pa = a := hinj _ _ (e.1.trans h3)
    subst ea
    have ev : pv = u.val := e.2
    subst ev
    exact .inr ⟨j, _, u, aget_at hdis (List.mem_of_getElem? hp), h1, hp, h2, h3⟩
/-- A look into a map. -/
theorem MapB.look (h : MapB P k enc w b l) (K : Keyed P k) (ht : P.underlying t = some (.map k e)) {z : Value} (hz : (zeroValue e).run P w = .ok z w) {a : α} {kl : Lit} (ha : keyOf P k (enc a) = some kl) (ok : Bool) :
    LookP P t (.map (some b)) (enc a) ok (match ok with | true => .tuple #[(aget l a).getD z, .bool (aget l a).isSome] | false => (aget l a).getD z) w := by
  obtain ⟨es, c, hb, he⟩ := h.blk
  constructor
  rcases map_find hinj K he h.key h.dis ha (w := w) with ⟨h1, h2⟩ | ⟨j, v, u, h1, h2, _⟩
  · rw [h1]
    cases ok <;> simp [Instr.lookup, run_underlying ht, MapKept.run_getObj_map hb, K.check w _ ha, h2, hz, Result.andThen]
  · rw [h1]
    cases ok <;> simp [Instr.lookup, run_underlying ht, MapKept.run_getObj_map hb, K.check w _ ha, h2, Result.andThen]
/-- An entry of a map is written. -/
theorem MapB.upd (h : MapB P k enc w b l) (K : Keyed P k) (ht : P.underlying t = some (.map k e)) {a : α} {kl : Lit} (ha : keyOf P k (enc a) = some kl) (v : Value) :
    ∃ w1, UpdP P t (.map (some b)) (enc a) v w w1 ∧ MapB P k enc w1 b (aset l a v) ∧ Kp (· = b) w w1 := by
  obtain ⟨es, c, hb, he⟩ := h.blk
  have hkp : ∀ o, Kp (· = b) w (ChangeMaps.setBlock w b o) := fun o => ⟨rfl, rfl, rfl, by simp [ChangeMaps.setBlock], fun i _ hi => ChangeMaps.heap_setBlock_other hb _ (fun e => hi (by rw [e]))⟩
  have hkeys : ∀ p ∈ aset l a v, ∃ kl, keyOf P k (enc p.1) = some kl := fun p hp => by
    rcases aset_keys a v p hp with e | e | e
    · rw [e]; exact ⟨_, ha⟩
    · exact h.key p e.1
    · exact h.key p e
  rcases map_find hinj K he h.key h.dis ha (w := w) with ⟨h1, h2⟩ | ⟨j, x, u, h1, h2, h3, h4, h5⟩
  · refine ⟨ChangeMaps.setBlock w b (.map (es.push ⟨enc a, v, c⟩) (c + 1)), ⟨?_⟩, ⟨⟨_, _, ChangeMaps.heap_setBlock_same hb _, ?_⟩, hkeys, aset_dis h.dis a v⟩, hkp _⟩
    · simp [Instr.mapUpdate, run_underlying ht, MapKept.run_getObj_map hb, K.check w _ ha, h2, MapKept.run_setObj_map _ hb, Result.andThen, ChangeMaps.setBlock]
    · rw [aset_new (aget_none.1 h1)]
      simp [he]
  · refine ⟨ChangeMaps.setBlock w b (.map (es.modify j fun e' => { e' with key := enc a, val := v }) c), ⟨?_⟩, ⟨⟨_, _, ChangeMaps.heap_setBlock_same hb _, ?_⟩, hkeys, aset_dis h.dis a v⟩, hkp _⟩
    · have hj : es[j]? = some u := by simpa using h4
      simp [Instr.mapUpdate, run_underlying ht, MapKept.run_getObj_map hb, K.check w _ ha, h2, hj, h5, K.stays w ha, MapKept.run_setObj_map _ hb, Result.andThen, ChangeMaps.setBlock]
    · rw [aset_old h.dis h3, List.map_set, ← he, Array.toList_modify, ChangeMaps.modify_eq_set _ _ _ _ h4, List.map_set]
end

end Go.Proofs.Ytmjanmffnblcoaa

/- Arrays of bytes as keys of maps, and their comparison. Generic: no program. -/
namespace Go.Proofs.Ytmjanmffnblcoaa
open Go.RowKit Go.Maps

theorem mapM_some {α β : Type} {f : α → Option β} {g : α → β} : ∀ (l : List α), (∀ x ∈ l, f x = some (g x)) → l.mapM f = some (l.map g)
  | [], _ => by simp
  | x :: l, h => by
    rw [List.mapM_cons, h x (by simp), mapM_some l fun y hy => h y (by simp [hy])]
    rfl
section
variable {P : Program} {t e : TypeId} {n : Nat}
/-- An array of bytes. -/
def byA (l : List Int) : Value := .agg (l.map (Value.int .u8)).toArray
theorem byA_inj (x y : List Int) (h : byA x = byA y) : x = y := by
  unfold byA at h
  simp only [Value.agg.injEq] at h
  have h : x.map (Value.int .u8) = y.map (Value.int .u8) := congrArg Array.toList h
  exact (List.map_inj_right (fun a b h => by cases h; rfl)).1 h
theorem keyLits_bytes (ht : P.underlying t = some (.array n e)) (he : P.underlying e = some (.int .u8)) (hc : P.cellsOf e = 1) (hct : P.cellsOf t = n) {l : List Int} (hl : l.length = n) (hb : ∀ x ∈ l, 0 ≤ x ∧ x ≤ 255) (D : Nat) :
    P.keyLits (D + 2) t (l.map (Value.int .u8)) = some (l.map (Lit.int .u8)) := by
  unfold Program.keyLits
  rw [ht]
  simp only
  rw [if_pos (by rw [List.length_map, hl, hct]), mapM_some (g := fun i => [Lit.int .u8 (l.getD i 0)]) _ (fun i hi => ?_)]
  · simp only [Option.map_some, Option.some.injEq]
    have h1 : ∀ r : List Nat, (r.map fun i => [Lit.int .u8 (l.getD i 0)]).flatten = r.map fun i => Lit.int .u8 (l.getD i 0) := fun r => by
      induction r with
      | nil => rfl
      | cons a r ih => rw [List.map_cons, List.map_cons, List.flatten_cons, ih]; rfl
    rw [h1]
    apply List.ext_getElem?
    intro j
    rw [List.getElem?_map, List.getElem?_map]
    rcases Nat.lt_or_ge j n with h | h
    · rw [List.getElem?_range h, List.getElem?_eq_getElem (by omega)]
      simp [List.getD_eq_getElem?_getD, hl, h]
    · rw [List.getElem?_eq_none (by simpa using h), List.getElem?_eq_none (by omega)]
      rfl
  · have hi : i < n := List.mem_range.1 hi
    have : ((l.map (Value.int .u8)).drop (i * P.cellsOf e)).take (P.cellsOf e) = [.int .u8 (l.getD i 0)] := by
      rw [hc, Nat.mul_one, List.drop_eq_getElem_cons (by rw [List.length_map]; omega)]
      simp [List.getD_eq_getElem?_getD, hl, hi]
    rw [this]
    unfold Program.keyLits
    rw [he]
    simp only
    have hx := hb (l.getD i 0) (by
      rw [List.getD_eq_getElem?_getD, List.getElem?_eq_getElem (by omega)]
      simp)
    generalize l.getD i 0 = v at hx
    have hw : (Lit.int .u8 v).wf = true := by simp [Lit.wf, IntKind.min, IntKind.max, IntKind.bits, IntKind.signed]; omega
    simp [hw]
theorem keyOf_bytes (ht : P.underlying t = some (.array n e)) (he : P.underlying e = some (.int .u8)) (hc : P.cellsOf e = 1) (hct : P.cellsOf t = n) (hkt : P.keyType t = true) (hD : 1 ≤ P.types.size) {l : List Int} (hl : l.length = n) (hb : ∀ x ∈ l, 0 ≤ x ∧ x ≤ 255) :
    keyOf P t (byA l) = some (.string (keyBytes (l.map (Lit.int .u8)))) := by
  unfold keyOf
  rw [ht]
  simp only
  have hf : (byA l).formed P t = true := by
    unfold byA Value.formed
    rw [ht]
    simp [hl, hct]
  rw [hkt, hf]
  have hk := keyLits_bytes ht he hc hct hl hb (P.types.size - 1)
  rw [show P.types.size - 1 + 2 = P.types.size + 1 by omega] at hk
  have : (byA l).cells.toList = l.map (Value.int .u8) := by simp [byA, Value.cells]
  rw [this, hk]
  rfl
theorem eq_bytes (ht : P.underlying t = some (.array n e)) (he : P.underlying e = some (.int .u8)) (hc : P.cellsOf e = 1) (hct : P.cellsOf t = n) (hkt : P.keyType t = true) (hD : 1 ≤ P.types.size) (hkm : P.keyTypeAt 3 t = true) (hg : P.eqGuardType P.depth t = false) {l l' : List Int} (hl : l.length = n) (hb : ∀ x ∈ l, 0 ≤ x ∧ x ≤ 255) (hl' : l'.length = n) (hb' : ∀ x ∈ l', 0 ≤ x ∧ x ≤ 255) :
    EqP P t (byA l) (byA l') (decide (l = l')) := by
  refine ⟨fun w => ?_, hg, _, _, rfl, rfl⟩
  obtain ⟨r, hr, hi⟩ := run_equal_deep w (m := 3) (by omega) hkm (by rw [ht]) (keyOf_bytes ht he hc hct hkt hD hl hb) (keyOf_bytes ht he hc hct hkt hD hl' hb')
  rw [hr]
  congr 1
  rw [Bool.eq_iff_iff, hi, decide_eq_true_eq]
  constructor
  · intro h
    have h : keyBytes (l.map (Lit.int .u8)) = keyBytes (l'.map (Lit.int .u8)) := by simpa using h
    have := keyLits_inj (keyLits_bytes ht he hc hct hl hb 0) (keyLits_bytes ht he hc hct hl' hb' 0) h
    exact (List.map_inj_right (fun a b h => by cases h; rfl)).1 this
  · rintro rfl; rfl
end
end Go.Proofs.Ytmjanmffnblcoaa

/- Identities: arrays of 32 bytes as lists, as keys, compared. No condition. -/
namespace Go.Proofs.Ytmjanmffnblcoaa
open Go.RowKit Go.Sort Go.Maps

/-- The numbers of an array of 32 bytes. -/
def idI (f : Nat → Int) : List Int := (List.range 32).map f
/-- Its bytes. -/
def idB (f : Nat → Int) : List UInt8 := (idI f).map fun x => x.toNat.toUInt8
theorem arrI_idI (f : Nat → Int) : arrI .u8 f 32 0 = (idI f).map (Value.int .u8) := rfl
theorem idI_get (f : Nat → Int) {j : Nat} (h : j < 32) : (idI f)[j]? = some (f j) := by simp [idI, h]
theorem arrI_get (k : IntKind) (f : Nat → Int) : ∀ (n i j : Nat), j < n → (arrI k f n i)[j]? = some (.int k (f (i + j)))
  | 0, _, j, h => by omega
  | n + 1, i, 0, _ => by simp [arrI]
  | n + 1, i, j + 1, h => by
    simp only [arrI, List.getElem?_cons_succ]
    rw [arrI_get k f n (i + 1) j (by omega)]
    congr 3; omega
/-- Only draws and new blocks. -/
theorem grow_of {w w' : World} (h : K0 w w') (hd : w.drawn ≤ w'.drawn) : ∃ q os', w' = grow (w.drewN q) os' := by
  refine ⟨w'.drawn - w.drawn, w'.heap.extract w.heap.size w'.heap.size, ?_⟩
  have hh : w'.heap = w.heap ++ w'.heap.extract w.heap.size w'.heap.size := by
    apply Array.ext_getElem?
    intro i
    rw [Array.getElem?_append]
    split
    · rename_i hi; exact h.block i hi (fun h => h)
    · rename_i hi
      rw [Array.getElem?_extract]
      have := h.size
      by_cases hl : i < w'.heap.size
      · rw [if_pos (by omega)]; congr 1; omega
      · rw [if_neg (by omega)]; exact Array.getElem?_eq_none (by omega)
  have h1 := h.os
  have h2 := h.tape
  have h3 := h.output
  obtain ⟨hp, tp, dr, os, out⟩ := w
  obtain ⟨hp', tp', dr', os', out'⟩ := w'
  simp only at hh h1 h2 h3 hd
  subst h1 h2 h3
  simp only [grow, World.drewN]
  congr 1
  omega
theorem aget_trues {α : Type} [DecidableEq α] (acc : List α) (a : α) : aget (acc.map fun x => (x, Value.bool true)) a = if a ∈ acc then some (.bool true) else none := by
  induction acc with
  | nil => rfl
  | cons y r ih =>
    rw [List.map_cons]
    unfold aget
    by_cases h : y = a
    · subst h; simp
    · rw [if_neg h, ih]
      simp only [List.mem_cons]
      have : ¬ a = y := fun e => h e.symm
      simp [this]
theorem zeroBool (w : World) : (zeroValue 4).run Try.prog w = .ok (.bool false) w := by kernel_rfl
theorem idKeyed : Keyed Try.prog 38 := Keyed.of_law (deep_law (m := 3) (by omega) (by kernel_rfl) (by kernel_rfl) (by kernel_rfl))
theorem idKey {l : List Int} (hl : l.length = 32) (hb : ∀ x ∈ l, 0 ≤ x ∧ x ≤ 255) : keyOf Try.prog 38 (byA l) = some (.string (keyBytes (l.map (Lit.int .u8)))) :=
  keyOf_bytes Try.underlying38 Try.underlying5 (by kernel_rfl) (by kernel_rfl) (by kernel_rfl) (by decide +kernel) hl hb
theorem idEq {l l' : List Int} (hl : l.length = 32) (hb : ∀ x ∈ l, 0 ≤ x ∧ x ≤ 255) (hl' : l'.length = 32) (hb' : ∀ x ∈ l', 0 ≤ x ∧ x ≤ 255) : EqP Try.prog 38 (byA l) (byA l') (decide (l = l')) :=
  eq_bytes Try.underlying38 Try.underlying5 (by kernel_rfl) (by kernel_rfl) (by kernel_rfl) (by decide +kernel) (by kernel_rfl) (by kernel_rfl) hl hb hl' hb'
theorem idI_len (f : Nat → Int) : (idI f).length = 32 := by simp [idI]
theorem idI_bd {f : Nat → Int} (h : ∀ j, 0 ≤ f j ∧ f j ≤ 255) : ∀ x ∈ idI f, 0 ≤ x ∧ x ≤ 255 := fun x hx => by
  obtain ⟨j, _, rfl⟩ := List.mem_map.1 hx
  exact h j

end Go.Proofs.Ytmjanmffnblcoaa
