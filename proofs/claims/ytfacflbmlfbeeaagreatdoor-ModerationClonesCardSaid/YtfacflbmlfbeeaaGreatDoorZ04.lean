/- Lemmas on rows and strings in the memory. Generic: no program, no condition. -/
import Derived.Test.YtfacflbmlfbeeaaGreatDoorZ03
import Derived.SizedLaws
import Derived.Maps.Keyed
import Derived.DeepKeys3
import Derived.Lib.Bytealg
import Derived.Sort.Statements
import Derived.Sort.Grow
import Derived.Deep.Draws
import Derived.Test.YtfacflbmlfbeeaaGreatDoorProg
import Derived.Lib.SplitLaws
import Derived.Lib.CountLaws
import Derived.Lib.CutLaws
import Derived.Lib.ItoaNum
import Derived.Test.YtfacflbmlfbeeaaGreatDoorZ02
import Derived.KernelRfl
import Derived.Shelf.Small.Bits
import Derived.Shelf.Small.Wraps
import Derived.Shelf.Strconv.Itoa0
import Derived.Shelf.Strings.Search1
import Derived.Shelf.Strings.Search2
import Derived.Shelf.Strings.Search3
import Derived.Shelf.Strings.Count
import Derived.Shelf.LaysM
import Derived.Shelf.Strings.Shaped
import Derived.Shelf.Strings.Split
import Derived.Shelf.Strings.SplitShaped
import Derived.Shelf.Unicode.DecodeSlow
namespace Go.Proofs.YtfacflbmlfbeeaaGreatDoor
open Go.RowKit
def StrP (w : World) (p : Option Addr) (zs : List ByteArray) : Prop := ∀ j z, zs[j]? = some z -> ∃ b o, p = some ⟨b, o, none⟩ /\ w.cell? ⟨b, o + j, none⟩ = some (.string z)
theorem StrP.kp {M : Nat -> Prop} {w w' : World} {p : Option Addr} {zs : List ByteArray} (h : StrP w p zs) (hk : Kp M w w') (hm : ∀ b o, p = some ⟨b, o, none⟩ -> ¬ M b) : StrP w' p zs := fun j z hj => by
 obtain ⟨b, o, hp, hc⟩ := h j z hj
 exact ⟨b, o, hp, hk.cell' hc (hm b o hp)⟩
theorem own_cellL {w : World} {base : Nat} {e : TypeId} {L n c : Nat} {p : Option Addr} {xs : List Value} (h : w.ownsRow base e L (.slice p n c) n xs) {i : Nat} {v : Value} (hv : xs[i]? = some v) : ∃ g, p = some ⟨g, 0, none⟩ /\ w.cell? ⟨g, i, none⟩ = some v := by
 have hl := h.1
 have hi : i < xs.length := (List.getElem?_eq_some_iff.1 hv).1
 rcases h.2 with ⟨_, hn⟩ | ⟨g, cap, cur, he, _, hg, _, _, _, ht⟩
 ·rw [hn, Nat.zero_mul] at hl; omega
 ·simp only [Value.slice.injEq] at he
  refine ⟨g, he.1, ?_⟩
  rw [cell_block hg]
  rw [<- ht, List.getElem?_take] at hv
  split at hv
  ·rw [Array.getElem?_toList] at hv; exact hv
  ·cases hv
theorem flat_get {α : Type} (f : α -> List Value) (L : Nat) : ∀ (l : List α) (k : Nat) (x : α) (j : Nat), (∀ y ∈ l, (f y).length = L) -> l[k]? = some x -> j < L -> (l.flatMap f)[k * L + j]? = (f x)[j]?
 | [], k, x, j, _, h, _ => by simp at h
 | y :: l, 0, x, j, hl, h, hj => by
  simp at h
  subst h
  rw [List.flatMap_cons, Nat.zero_mul, Nat.zero_add, List.getElem?_append_left (by rw [hl y (by simp)]; exact hj)]
 | y :: l, k + 1, x, j, hl, h, hj => by
  have hy := hl y (by simp)
  rw [List.flatMap_cons, List.getElem?_append_right (by rw [hy, Nat.succ_mul]; omega), hy]
  rw [show (k + 1) * L + j - L = k * L + j by rw [Nat.succ_mul]; omega]
  exact flat_get f L l k x j (fun z hz => hl z (by simp [hz])) (by simpa using h) hj
theorem own_base {w : World} {base base' : Nat} {e : TypeId} {size : Nat} {v : Value} {n : Nat} {xs : List Value} (h : w.ownsRow base e size v n xs) (hb : base' <= base) : w.ownsRow base' e size v n xs :=
 ⟨h.1, h.2.imp id fun ⟨g, cap, cur, a1, a2, a3⟩ => ⟨g, cap, cur, a1, Nat.le_trans hb a2, a3⟩⟩
theorem AtL.k0 {w w' : World} {b o : Nat} {cs : List Value} (h : AtL w b o cs) (hk : K0 w w') : AtL w' b o cs := by
 have key : ∀ (cs : List Value) (o : Nat), At w b o cs -> At w' b o cs := by
  intro cs
  induction cs with
  | nil => intro o _; trivial
  | cons v r ih =>
   intro o h
   cases r with
   | nil => exact hk.cell' h (fun h => h)
   | cons u r => exact ⟨hk.cell' h.1 (fun h => h), ih (o + 1) h.2⟩
 exact ⟨key cs o h.h⟩
theorem nn_off {p : Option Addr} {K : Nat -> Nat -> Prop} (h : ∀ b o, K b o) : nn false p K := by
 match p with
 | none => exact ⟨rfl, h 0 0⟩
 | some ⟨b, o, none⟩ => exact h b o
 | some ⟨b, o, some x⟩ => exact ⟨rfl, h 0 0⟩
theorem own_le {w : World} {base : Nat} {e : TypeId} {size n c : Nat} {p : Option Addr} {xs : List Value} (h : w.ownsRow base e size (.slice p n c) n xs) : n <= c := by
 rcases h.2 with ⟨hv, hn⟩ | ⟨g, cap, cur, hv, _, _, hc, _⟩
 ·omega
 ·simp only [Value.slice.injEq, true_and] at hv
  rw [hv.2]; exact hc
theorem own_none {w : World} {base n0 : Nat} {e : TypeId} {size : Nat} (hb : base <= n0) (h : w.heap[n0]? = some (.cells #[] e (0, 0))) : w.ownsRow base e size (.slice (some ⟨n0, 0, none⟩) 0 0) 0 [] :=
 ⟨by simp, .inr ⟨n0, 0, #[], rfl, hb, h, Nat.le_refl _, by decide, by simp, by simp⟩⟩
theorem src_take {w : World} {base : Nat} {e : TypeId} {size n c : Nat} {p : Option Addr} {xs : List Value} (h : w.ownsRow base e size (.slice p n c) n xs) (h1 : ∀ u ∈ xs, u.oneCell' = true) (m : Nat) : SrcP w p (xs.take m) := by
 refine ⟨fun j u hj => ?_, fun u hu => h1 u (List.mem_of_mem_take hu)⟩
 rw [List.getElem?_take] at hj
 split at hj
 ·obtain ⟨g, hp, hc⟩ := own_cellL h hj
  exact ⟨g, 0, hp, by rw [Nat.zero_add]; exact hc⟩
 ·cases hj
theorem src_drop {w : World} {base : Nat} {e : TypeId} {size n c : Nat} {p : Option Addr} {xs : List Value} (h : w.ownsRow base e size (.slice p n c) n xs) (h1 : ∀ u ∈ xs, u.oneCell' = true) {i : Nat} (hi : i <= n) : SrcP w (slA p c i size) (xs.drop (i * size)) := by
 refine ⟨fun j u hj => ?_, fun u hu => h1 u (List.mem_of_mem_drop hu)⟩
 rw [List.getElem?_drop] at hj
 obtain ⟨g, hp, hc⟩ := own_cellL h hj
 have hlt := (List.getElem?_eq_some_iff.1 hj).1
 have hl := h.1
 have hle := own_le h
 have hne : c ≠ i := by
  intro e
  have : n = i := by omega
  subst this
  omega
 refine ⟨g, i * size, ?_, hc⟩
 unfold slA
 rw [if_neg hne, hp]
 simp [add_plain]
theorem kp_grown {w w' : World} {row : Option Nat} (hg : w.grownBy w' row) : Kp (fun k => row = some k) w w' := (Kp.refl _ _).grown hg (fun _ hk => .inr hk)
theorem take_flat {α : Type} (f : α -> List Value) (L : Nat) : ∀ (l : List α) (m : Nat), (∀ y ∈ l, (f y).length = L) -> (l.flatMap f).take (m * L) = (l.take m).flatMap f
 | [], m, _ => by simp
 | y :: l, 0, _ => by simp
 | y :: l, m + 1, h => by
  have hy := h y List.mem_cons_self
  rw [List.flatMap_cons, List.take_append, List.take_of_length_le (by rw [hy, Nat.succ_mul]; omega), hy, show (m + 1) * L - L = m * L by rw [Nat.succ_mul]; omega, take_flat f L l m (fun z hz => h z (List.mem_cons_of_mem _ hz))]
  rfl
theorem drop_flat {α : Type} (f : α -> List Value) (L : Nat) : ∀ (l : List α) (m : Nat), (∀ y ∈ l, (f y).length = L) -> (l.flatMap f).drop (m * L) = (l.drop m).flatMap f
 | [], m, _ => by simp
 | y :: l, 0, _ => by simp
 | y :: l, m + 1, h => by
  have hy := h y List.mem_cons_self
  rw [List.flatMap_cons, List.drop_append, List.drop_eq_nil_of_le (by rw [hy, Nat.succ_mul]; omega), hy, show (m + 1) * L - L = m * L by rw [Nat.succ_mul]; omega, drop_flat f L l m (fun z hz => h z (List.mem_cons_of_mem _ hz))]
  rfl
theorem len_flat {α : Type} (f : α -> List Value) (L : Nat) : ∀ (l : List α), (∀ y ∈ l, (f y).length = L) -> (l.flatMap f).length = l.length * L
 | [], _ => by simp
 | y :: l, h => by
  rw [List.flatMap_cons, List.length_append, h y List.mem_cons_self, len_flat f L l (fun z hz => h z (List.mem_cons_of_mem _ hz)), List.length_cons, Nat.succ_mul]; omega
theorem own_at {α : Type} (f : α -> List Value) {L : Nat} {w : World} {base : Nat} {e : TypeId} {p : Option Addr} {n c : Nat} {l : List α} (h : w.ownsRow base e L (.slice p n c) n (l.flatMap f)) (hl : ∀ y ∈ l, (f y).length = L) (h0 : 0 < L) {k : Nat} {y : α} (hy : l[k]? = some y) : ∃ g, p = some ⟨g, 0, none⟩ /\ AtL w g (0 + k * L) (f y) := by
 have hyl := hl y (List.mem_of_getElem? hy)
 have key : ∀ j v, (f y)[j]? = some v -> ∃ g, p = some ⟨g, 0, none⟩ /\ w.cell? ⟨g, k * L + j, none⟩ = some v := fun j v hv => own_cellL h (by
  have hj : j < L := by rw [<- hyl]; exact (List.getElem?_eq_some_iff.1 hv).1
  rw [flat_get f L l k y j hl hy hj]; exact hv)
 obtain ⟨g, hp, _⟩ := key 0 _ (List.getElem?_eq_getElem (by omega))
 refine ⟨g, hp, ⟨At_of _ _ fun j v hv => ?_⟩⟩
 obtain ⟨g', hp', hc⟩ := key j v hv
 rw [hp] at hp'
 simp only [Option.some.injEq, Addr.mk.injEq, and_true] at hp'
 subst hp'
 rw [Nat.zero_add]; exact hc
theorem AtL.left {w : World} {b o : Nat} {l1 l2 : List Value} (h : AtL w b o (l1 ++ l2)) : AtL w b o l1 :=
 ⟨At_of _ _ fun j v hv => At_get _ _ h.h j v (by rw [List.getElem?_append_left (List.getElem?_eq_some_iff.1 hv).1]; exact hv)⟩
end Go.Proofs.YtfacflbmlfbeeaaGreatDoor
namespace Go.Proofs.YtfacflbmlfbeeaaGreatDoor
open Go.ChangeShapes Go.WideShapes Go.ChangeAt Go.RowKit Go.Deep
def Rd {H : Type} (enc : TypeId × Value -> H) (P : Program) (W : World) (t : TypeId) (cs : List Value) : Prop := ∃ (fuel : Nat) (x : DataW H × List MemPlace), DataW.trod enc P W 0 (fun _ => true) true fuel t cs = some x
section
variable {H : Type} {enc : TypeId × Value -> H} {P : Program} {W : World} {t : TypeId} {cs : List Value}
theorem Rd.of {v : Value} {d : DataW H} {ps : List MemPlace} (h : DataW.Trod enc P W 0 (fun _ => true) true t v d ps) : Rd enc P W t v.cells.toList := by
 obtain ⟨fuel, h⟩ := h; exact ⟨fuel, _, h⟩
theorem Rd.field {fs : Array Field} (h : Rd enc P W t cs) (ht : P.underlying t = some (.struct fs)) {i : Nat} {f : Field} (hf : fs[i]? = some f) : Rd enc P W f.type ((cs.drop f.offset).take (P.cellsOf f.type)) := by
 obtain ⟨fuel, x, h⟩ := h
 obtain ⟨xs, n, _, _, _, hl, hg⟩ := DataW.trod_struct ht h
 have hi : i < xs.length := by rw [hl]; exact (Array.getElem?_eq_some_iff.1 hf).1
 exact ⟨n, xs[i], by rw [hg i f hf, List.getElem?_eq_getElem hi]⟩
theorem Rd.int {k : IntKind} (h : Rd enc P W t cs) (ht : P.underlying t = some (.int k)) : ∃ n, cs = [.int k n] /\ (Lit.int k n).wf = true := by
 obtain ⟨fuel, x, h⟩ := h
 obtain ⟨n, h1, _, h2⟩ := DataW.trod_int ht h
 exact ⟨n, h1, h2⟩
theorem Rd.bool (h : Rd enc P W t cs) (ht : P.underlying t = some .bool) : ∃ b, cs = [.bool b] := by
 obtain ⟨fuel, x, h⟩ := h
 obtain ⟨b, h1, _⟩ := DataW.trod_bool ht h
 exact ⟨b, h1⟩
theorem Rd.str (h : Rd enc P W t cs) (ht : P.underlying t = some .string) : ∃ s : ByteArray, cs = [.string s] /\ s.size <= 9223372036854775807 := by
 obtain ⟨fuel, x, h⟩ := h
 obtain ⟨s, h1, _, h2⟩ := DataW.trod_string ht h
 exact ⟨s, h1, h2⟩
theorem Rd.slice {e : TypeId} (h : Rd enc P W t cs) (ht : P.underlying t = some (.slice e)) (hp : 0 < P.cellsOf e) : ∃ (p : Option Addr) (n c : Nat), cs = [.slice p n c] /\ n <= c /\ n <= 9223372036854775807 /\
  ∀ i, i < n -> ∃ (b o : Nat) (cs' : List Value), p = some ⟨b, o, none⟩ /\ cs'.length = P.cellsOf e /\ (∀ j v, cs'[j]? = some v -> W.cell? ⟨b, o + i * P.cellsOf e + j, none⟩ = some v) /\ Rd enc P W e cs' := by
 obtain ⟨fuel, x, h⟩ := h
 rcases open_slice ht h with ⟨h0, _⟩ | ⟨a, len, cap, m, nn, D, Pl, hcs, hb, hl, hm, hmm, hx, hi⟩
 ·exact ⟨none, 0, 0, h0, by omega, by omega, fun i hi => by omega⟩
 ·refine ⟨some a, len, cap, hcs, hl, by unfold maxLen at hm; omega, fun i hilt => ?_⟩
  have hmc : m = cap := by rw [hmm]; rfl
  obtain ⟨cs', hc, ht'⟩ := hi i (by omega)
  obtain ⟨_, hlen, hat⟩ := World.cells?_some hc
  have hspot : a.spot = none := by
   obtain ⟨cs0, hc0, _⟩ := hi 0 (by omega)
   obtain ⟨_, hl0, ha0⟩ := World.cells?_some hc0
   have h00 := ha0 0 hp
   rw [List.getElem?_eq_getElem (by omega)] at h00
   have := World.cell?_spot h00
   simpa [Addr.add] using this
  obtain ⟨b, o, sp⟩ := a
  simp only at hspot
  subst hspot
  refine ⟨b, o, cs', rfl, hlen, fun j v hj => ?_, nn, _, ht'⟩
  have hjl : j < P.cellsOf e := by have := (List.getElem?_eq_some_iff.1 hj).1; omega
  have := hat j hjl
  rw [addr_add2, hj] at this
  exact this
theorem arrI_ext (k : IntKind) (f : Nat -> Int) : ∀ (n i : Nat) (cs : List Value), cs.length = n -> (∀ j, j < n -> cs[j]? = some (.int k (f (i + j)))) -> cs = arrI k f n i
 | 0, i, [], _, _ => rfl
 | 0, i, _ :: _, h, _ => by simp at h
 | n + 1, i, [], h, _ => by simp at h
 | n + 1, i, c :: cs, h, hc => by
  have h0 := hc 0 (by omega)
  simp at h0
  simp only [arrI]
  rw [h0, <- arrI_ext k f n (i + 1) cs (by simpa using h) (fun j hj => by
   have := hc (j + 1) (by omega)
   rw [show i + 1 + j = i + (j + 1) by omega]
   simpa using this)]
theorem Rd.arr {n : Nat} {e : TypeId} {k : IntKind} (h : Rd enc P W t cs) (ht : P.underlying t = some (.array n e)) (he : P.underlying e = some (.int k)) (h1 : P.cellsOf e = 1) (hn : P.cellsOf t = n) : ∃ f : Nat -> Int, cs = arrI k f n 0 := by
 obtain ⟨fuel, x, h⟩ := h
 obtain ⟨xs, m, _, _, hl, hxl, hg⟩ := DataW.trod_array ht h
 rw [hn] at hl
 have key : ∀ i, i < n -> ∃ z : Int, cs[i]? = some (.int k z) := fun i hi => by
  have h2 := hg i hi
  rw [h1, List.getElem?_eq_getElem (by omega)] at h2
  obtain ⟨z, hz, _⟩ := DataW.trod_int he h2
  refine ⟨z, ?_⟩
  have : (cs.drop (i * 1)).take 1 = [cs[i]'(by omega)] := by
   rw [Nat.mul_one, List.drop_eq_getElem_cons (by omega)]; rfl
  rw [this] at hz
  simp at hz
  rw [List.getElem?_eq_getElem (by omega), hz]
 refine ⟨fun i => if h : i < n then Classical.choose (key i h) else 0, arrI_ext k _ n 0 cs hl (fun j hj => ?_)⟩
 rw [Nat.zero_add]
 simp only [hj, dif_pos]
 exact Classical.choose_spec (key j hj)
end
end Go.Proofs.YtfacflbmlfbeeaaGreatDoor
namespace Go.Proofs.YtfacflbmlfbeeaaGreatDoor
open Go.ChangeShapes Go.WideShapes Go.ChangeAt Go.RowKit Go.Deep
theorem weightsAll_mem {H : Type} {P : Program} {e : TypeId} : ∀ {l : List (DataW H)} {d : DataW H}, d ∈ l -> ∀ n ∈ d.weights P e, n ∈ DataW.weightsAll P e l
 | y :: l, d, hd, n, hn => by
  simp only [DataW.weightsAll, List.mem_append]
  rcases List.mem_cons.1 hd with rfl | h
  ·exact .inl hn
  ·exact .inr (weightsAll_mem h n hn)
def Rw {H : Type} (enc : TypeId × Value -> H) (P : Program) (W : World) (t : TypeId) (cs : List Value) : Prop := ∃ (fuel : Nat) (x : DataW H × List MemPlace), DataW.trod enc P W 0 (fun _ => true) true fuel t cs = some x /\ ∀ n ∈ x.1.weights P t, n <= reachBytes
section
variable {H : Type} {enc : TypeId × Value -> H} {P : Program} {W : World} {t : TypeId} {cs : List Value}
theorem Rw.rd (h : Rw enc P W t cs) : Rd enc P W t cs := by obtain ⟨f, x, h, _⟩ := h; exact ⟨f, x, h⟩
theorem Rw.of {v : Value} {d : DataW H} {ps : List MemPlace} {ts : List TypeId} {ds : List (DataW H)} (h : DataW.Trod enc P W 0 (fun _ => true) true t v d ps) (hz : (DataW.weightsEach P ts ds).all (· <= reachBytes) = true) (j : Nat) (ht : ts[j]? = some t) (hd : ds[j]? = some d) : Rw enc P W t v.cells.toList := by
 obtain ⟨fuel, h⟩ := h
 exact ⟨fuel, _, h, fun n hn => by simpa using List.all_eq_true.1 hz _ (DataW.weights_mem_each ht hd n hn)⟩
theorem Rw.field {fs : Array Field} (h : Rw enc P W t cs) (ht : P.underlying t = some (.struct fs)) {i : Nat} {f : Field} (hf : fs[i]? = some f) : Rw enc P W f.type ((cs.drop f.offset).take (P.cellsOf f.type)) := by
 obtain ⟨fuel, x, h, hw⟩ := h
 obtain ⟨xs, n, _, rfl, _, hl, hg⟩ := DataW.trod_struct ht h
 have hi : i < xs.length := by rw [hl]; exact (Array.getElem?_eq_some_iff.1 hf).1
 refine ⟨n, xs[i], by rw [hg i f hf, List.getElem?_eq_getElem hi], fun m hm => hw m ?_⟩
 simp only [DataW.weights, ht]
 refine DataW.weights_mem_each (j := i) (t := f.type) (d := xs[i].1) ?_ ?_ m hm
 ·rw [List.getElem?_map, Array.getElem?_toList, hf]; rfl
 ·rw [List.getElem?_map, List.getElem?_eq_getElem hi]; rfl
theorem Rw.int64 (h : Rw enc P W t cs) (ht : P.underlying t = some (.int .i64)) : ∃ n : Int, cs = [.int .i64 n] /\ -9223372036854775808 <= n /\ n <= 9223372036854775807 := by
 obtain ⟨n, h1, h2⟩ := h.rd.int ht
 have : IntKind.i64.min <= n /\ n <= IntKind.i64.max := by simpa [Lit.wf] using h2
 exact ⟨n, h1, this⟩
theorem Rw.int8 (h : Rw enc P W t cs) (ht : P.underlying t = some (.int .u8)) : ∃ n : Int, cs = [.int .u8 n] /\ 0 <= n /\ n <= 255 := by
 obtain ⟨n, h1, h2⟩ := h.rd.int ht
 have : IntKind.u8.min <= n /\ n <= IntKind.u8.max := by simpa [Lit.wf] using h2
 exact ⟨n, h1, this⟩
theorem Rw.bool (h : Rw enc P W t cs) (ht : P.underlying t = some .bool) : ∃ b, cs = [.bool b] := h.rd.bool ht
theorem Rw.str (h : Rw enc P W t cs) (ht : P.underlying t = some .string) : ∃ s : ByteArray, cs = [.string s] /\ s.size <= 140737488351232 := by
 obtain ⟨fuel, x, h, hw⟩ := h
 obtain ⟨s, h1, rfl, _⟩ := DataW.trod_string ht h
 refine ⟨s, h1, ?_⟩
 have := hw s.data.toList.length (by simp [DataW.weights])
 simpa [reachBytes] using this
theorem Rw.slice {e : TypeId} (h : Rw enc P W t cs) (ht : P.underlying t = some (.slice e)) (hp : 0 < P.cellsOf e) : ∃ (p : Option Addr) (n c : Nat), cs = [.slice p n c] /\ n <= c /\ c * P.bytesOf e <= 140737488351232 /\ c <= 9223372036854775807 /\
  ∀ i, i < n -> ∃ (b o : Nat) (cs' : List Value), p = some ⟨b, o, none⟩ /\ cs'.length = P.cellsOf e /\ (∀ j v, cs'[j]? = some v -> W.cell? ⟨b, o + i * P.cellsOf e + j, none⟩ = some v) /\ Rw enc P W e cs' := by
 obtain ⟨fuel, x, h, hw⟩ := h
 rcases open_slice ht h with ⟨h0, _⟩ | ⟨a, len, cap, m, nn, D, Pl, hcs, hb, hl, hm, hmm, rfl, hi⟩
 ·exact ⟨none, 0, 0, h0, by omega, by omega, by omega, fun i hi => by omega⟩
 ·have hmc : m = cap := by rw [hmm]; rfl
  have hwt := hw ((len + (m - len)) * P.bytesOf e) (by simp [DataW.weights, ht])
  rw [hmc, show len + (cap - len) = cap by omega] at hwt
  refine ⟨some a, len, cap, hcs, hl, by simpa [reachBytes] using hwt, by unfold maxLen at hm; omega, fun i hilt => ?_⟩
  obtain ⟨cs', hc, ht'⟩ := hi i (by omega)
  obtain ⟨_, hlen, hat⟩ := World.cells?_some hc
  have hspot : a.spot = none := by
   obtain ⟨cs0, hc0, _⟩ := hi 0 (by omega)
   obtain ⟨_, hl0, ha0⟩ := World.cells?_some hc0
   have h00 := ha0 0 hp
   rw [List.getElem?_eq_getElem (by omega)] at h00
   have := World.cell?_spot h00
   simpa [Addr.add] using this
  obtain ⟨b, o, sp⟩ := a
  simp only at hspot
  subst hspot
  refine ⟨b, o, cs', rfl, hlen, fun j v hj => ?_, nn, _, ht', fun k hk => hw k ?_⟩
  ·have hjl : j < P.cellsOf e := by have := (List.getElem?_eq_some_iff.1 hj).1; omega
   have := hat j hjl
   rw [addr_add2, hj] at this
   exact this
  ·simp only [DataW.weights, ht, List.mem_cons, List.mem_append]
   exact .inr (.inl (weightsAll_mem (List.mem_map.2 ⟨i, List.mem_range.2 hilt, rfl⟩) k hk))
theorem Rw.bytes {n : Nat} {e : TypeId} (h : Rw enc P W t cs) (ht : P.underlying t = some (.array n e)) (he : P.underlying e = some (.int .u8)) (h1 : P.cellsOf e = 1) (hn : P.cellsOf t = n) : ∃ f : Nat -> Int, cs = arrI .u8 f n 0 /\ ∀ j, 0 <= f j /\ f j <= 255 := by
 obtain ⟨fuel, x, h, _⟩ := h
 obtain ⟨xs, m, _, _, hl, hxl, hg⟩ := DataW.trod_array ht h
 rw [hn] at hl
 have key : ∀ i, i < n -> ∃ z : Int, cs[i]? = some (.int .u8 z) /\ 0 <= z /\ z <= 255 := fun i hi => by
  have h2 := hg i hi
  rw [h1, List.getElem?_eq_getElem (by omega)] at h2
  obtain ⟨z, hz, _, hw⟩ := DataW.trod_int he h2
  refine ⟨z, ?_, ?_⟩
  ·have : (cs.drop (i * 1)).take 1 = [cs[i]'(by omega)] := by
    rw [Nat.mul_one, List.drop_eq_getElem_cons (by omega)]; rfl
   rw [this] at hz
   simp at hz
   rw [List.getElem?_eq_getElem (by omega), hz]
  ·have : IntKind.u8.min <= z /\ z <= IntKind.u8.max := by simpa [Lit.wf] using hw
   exact this
 refine ⟨fun i => if h : i < n then Classical.choose (key i h) else 0, arrI_ext .u8 _ n 0 cs hl (fun j hj => ?_), fun j => ?_⟩
 ·rw [Nat.zero_add]
  simp only [hj, dif_pos]
  exact (Classical.choose_spec (key j hj)).1
 ·by_cases h : j < n
  ·simp only [h, dif_pos]; exact (Classical.choose_spec (key j h)).2
  ·simp only [h, dif_neg, not_false_iff]; omega
end
end Go.Proofs.YtfacflbmlfbeeaaGreatDoor
namespace Go.Proofs.YtfacflbmlfbeeaaGreatDoor
open Go.RowKit Go.Maps
section
variable {α : Type} [DecidableEq α]
def aget {β : Type} : List (α × β) -> α -> Option β
 | [], _ => none
 | (b, v) :: r, a => if b = a then some v else aget r a
def aset {β : Type} : List (α × β) -> α -> β -> List (α × β)
 | [], a, v => [(a, v)]
 | (b, u) :: r, a, v => if b = a then (a, v) :: r else (b, u) :: aset r a v
def adel {β : Type} (l : List (α × β)) (a : α) : List (α × β) := l.filter fun p => !decide (p.1 = a)
variable {β : Type}
theorem aget_aset (l : List (α × β)) (a c : α) (v : β) : aget (aset l a v) c = if a = c then some v else aget l c := by
 induction l with
 | nil => simp [aset, aget]
 | cons p r ih =>
  obtain ⟨b, u⟩ := p
  unfold aset
  by_cases h : b = a
  ·subst h
   simp only [if_pos]
   unfold aget
   split <;> rfl
  ·rw [if_neg h]
   simp only [aget]
   rw [ih]
   by_cases h1 : b = c
   ·subst h1
    rw [if_pos rfl, if_neg (fun e => h e.symm), if_pos rfl]
   ·rw [if_neg h1, if_neg h1]
theorem aget_none {l : List (α × β)} {a : α} : aget l a = none ↔ ∀ p ∈ l, p.1 ≠ a := by
 induction l with
 | nil => simp [aget]
 | cons p r ih =>
  obtain ⟨b, u⟩ := p
  unfold aget
  by_cases h : b = a
  ·simp [h]
  ·rw [if_neg h, ih]
   simp [h]
theorem aget_mem {l : List (α × β)} {a : α} {v : β} (h : aget l a = some v) : (a, v) ∈ l := by
 induction l with
 | nil => simp [aget] at h
 | cons p r ih =>
  obtain ⟨b, u⟩ := p
  unfold aget at h
  by_cases h' : b = a
  ·rw [if_pos h'] at h
   simp at h; subst h; subst h'; simp
  ·rw [if_neg h'] at h
   exact List.mem_cons_of_mem _ (ih h)
theorem aget_at {l : List (α × β)} (hd : l.Pairwise fun p q => p.1 ≠ q.1) {a : α} {v : β} (h : (a, v) ∈ l) : aget l a = some v := by
 induction l with
 | nil => cases h
 | cons p r ih =>
  obtain ⟨b, u⟩ := p
  obtain ⟨h1, h2⟩ := List.pairwise_cons.1 hd
  unfold aget
  rcases List.mem_cons.1 h with e | e
  ·cases e; rw [if_pos rfl]
  ·rw [if_neg (h1 _ e)]; exact ih h2 e
theorem aset_new {l : List (α × β)} {a : α} {v : β} (h : ∀ p ∈ l, p.1 ≠ a) : aset l a v = l ++ [(a, v)] := by
 induction l with
 | nil => rfl
 | cons p r ih =>
  obtain ⟨b, u⟩ := p
  unfold aset
  rw [if_neg (h (b, u) (by simp)), ih fun q hq => h q (by simp [hq])]
  rfl
theorem aset_old {l : List (α × β)} (hd : l.Pairwise fun p q => p.1 ≠ q.1) {a : α} {v u : β} {j : Nat} (hj : l[j]? = some (a, u)) : aset l a v = l.set j (a, v) := by
 induction l generalizing j with
 | nil => simp at hj
 | cons p r ih =>
  obtain ⟨b, x⟩ := p
  obtain ⟨h1, h2⟩ := List.pairwise_cons.1 hd
  unfold aset
  cases j with
  | zero =>
   simp at hj
   rw [if_pos hj.1]; rfl
  | succ j =>
   have hj' : r[j]? = some (a, u) := by simpa using hj
   rw [if_neg (h1 _ (List.mem_of_getElem? hj')), ih h2 hj']
   rfl
theorem aset_keys {l : List (α × β)} (a : α) (v : β) : ∀ p ∈ aset l a v, p = (a, v) \/ (p ∈ l /\ p.1 ≠ a) \/ (p ∈ l) := by
 induction l with
 | nil => intro p hp; simp [aset] at hp; exact .inl hp
 | cons q r ih =>
  obtain ⟨b, u⟩ := q
  intro p hp
  unfold aset at hp
  split at hp
  ·rcases List.mem_cons.1 hp with h | h
   ·exact .inl h
   ·exact .inr (.inr (by simp [h]))
  ·rcases List.mem_cons.1 hp with h | h
   ·exact .inr (.inr (by simp [h]))
   ·rcases ih p h with h | h | h
    ·exact .inl h
    ·exact .inr (.inr (by simp [h.1]))
    ·exact .inr (.inr (by simp [h]))
theorem aset_dis {l : List (α × β)} (hd : l.Pairwise fun p q => p.1 ≠ q.1) (a : α) (v : β) : (aset l a v).Pairwise fun p q => p.1 ≠ q.1 := by
 induction l with
 | nil => simp [aset]
 | cons q r ih =>
  obtain ⟨b, u⟩ := q
  obtain ⟨h1, h2⟩ := List.pairwise_cons.1 hd
  unfold aset
  split
  ·rename_i h
   subst h
   exact List.pairwise_cons.2 ⟨h1, h2⟩
  ·rename_i h
   refine List.pairwise_cons.2 ⟨fun p hp => ?_, ih h2⟩
   rcases aset_keys a v p hp with e | e | e
   ·rw [e]; exact h
   ·exact h1 _ e.1
   ·exact h1 _ e
end
def amap {α β γ : Type} (f : β -> γ) (l : List (α × β)) : List (α × γ) := l.map fun p => (p.1, f p.2)
theorem aset_amap {α β γ : Type} [DecidableEq α] (f : β -> γ) (l : List (α × β)) (a : α) (v : β) : aset (amap f l) a (f v) = amap f (aset l a v) := by
 induction l with
 | nil => rfl
 | cons p r ih =>
  obtain ⟨b, u⟩ := p
  show aset ((b, f u) :: amap f r) a (f v) = _
  unfold aset
  split
  ·rfl
  ·rw [ih]; rfl
theorem aget_amap {α β γ : Type} [DecidableEq α] (f : β -> γ) (l : List (α × β)) (a : α) : aget (amap f l) a = (aget l a).map f := by
 induction l with
 | nil => rfl
 | cons p r ih =>
  obtain ⟨b, u⟩ := p
  show aget ((b, f u) :: amap f r) a = _
  unfold aget
  split
  ·rfl
  ·rw [ih]
structure MapB {α : Type} (P : Program) (k : TypeId) (enc : α -> Value) (w : World) (b : Nat) (l : List (α × Value)) : Prop where
 blk : ∃ es clock, w.heap[b]? = some (.map es clock) /\ es.toList.map (fun e => (e.key, e.val)) = l.map (fun p => (enc p.1, p.2))
 key : ∀ p ∈ l, ∃ kl, keyOf P k (enc p.1) = some kl
 dis : l.Pairwise fun p q => p.1 ≠ q.1
 brn : ∀ es c, w.heap[b]? = some (.map es c) -> (es.toList.map (·.born)).Nodup /\ ∀ x ∈ es.toList, x.born < c
section
variable {α : Type} {P : Program} {k t e : TypeId} {enc : α -> Value} {w w1 : World} {b : Nat} {l : List (α × Value)}
theorem MapB.lt (h : MapB P k enc w b l) : b < w.heap.size := by obtain ⟨es, c, hb, _⟩ := h.blk; exact block_lt hb
theorem MapB.kp {M : Nat -> Prop} {w' : World} (h : MapB P k enc w b l) (hk : Kp M w w') (hm : ¬ M b) : MapB P k enc w' b l := by
 obtain ⟨es, c, hb, he⟩ := h.blk
 exact ⟨⟨es, c, hk.blk hb hm, he⟩, h.key, h.dis, fun es' c' h' => h.brn es' c' (by rw [hk.blk hb hm] at h'; rw [hb]; exact h')⟩
theorem MapB.drew (h : MapB P k enc w b l) : MapB P k enc w.drew b l := ⟨h.blk, h.key, h.dis, h.brn⟩
theorem NewB.map {c : Nat} (h : NewB w (.map #[] c) b w1) : MapB P k enc w1 b ([] : List (α × Value)) :=
 ⟨⟨#[], c, h.block, rfl⟩, (fun p hp => by cases hp), .nil, fun es c' h' => by rw [h.block] at h'; cases h'; exact ⟨.nil, fun x hx => by simp at hx⟩⟩
variable [DecidableEq α] (hinj : ∀ x y, enc x = enc y -> x = y)
include hinj
theorem map_find (K : Keyed P k) {es : List MapEntry} (he : es.map (fun e => (e.key, e.val)) = l.map (fun p => (enc p.1, p.2))) (hkey : ∀ p ∈ l, ∃ kl, keyOf P k (enc p.1) = some kl) (hdis : l.Pairwise fun p q => p.1 ≠ q.1)
  {a : α} {kl : Lit} (ha : keyOf P k (enc a) = some kl) :
  (aget l a = none /\ (Instr.findKey k (enc a) es).run P w = .ok none w) \/
  (∃ j v u, aget l a = some v /\ (Instr.findKey k (enc a) es).run P w = .ok (some (j, v)) w /\ l[j]? = some (a, v) /\ es[j]? = some u /\ u.key = enc a) := by
 have hm : ∀ x ∈ es, ∃ p ∈ l, x.key = enc p.1 /\ x.val = p.2 := fun x hx => by
  have : (x.key, x.val) ∈ es.map (fun e => (e.key, e.val)) := List.mem_map.2 ⟨x, hx, rfl⟩
  rw [he] at this
  obtain ⟨p, hp, e⟩ := List.mem_map.1 this
  simp at e
  exact ⟨p, hp, e.1.symm, e.2.symm⟩
 rcases K.find w ha es (fun x hx => by
  obtain ⟨p, hp, h1, _⟩ := hm x hx
  rw [h1]; exact hkey p hp) with ⟨h1, h2⟩ | ⟨j, u, h1, h2, h3⟩
 ·refine .inl ⟨aget_none.2 fun p hp hpa => ?_, h1⟩
  have : (enc p.1, p.2) ∈ l.map (fun p => (enc p.1, p.2)) := List.mem_map.2 ⟨p, hp, rfl⟩
  rw [<- he] at this
  obtain ⟨x, hx, e⟩ := List.mem_map.1 this
  simp at e
  exact h2 x hx (by rw [e.1, hpa])
 ·have h4 : (es.map (fun e => (e.key, e.val)))[j]? = some (u.key, u.val) := by simp [h2]
  rw [he] at h4
  simp only [List.getElem?_map, Option.map_eq_some_iff] at h4
  obtain ⟨p, hp, e⟩ := h4
  simp at e
  obtain ⟨pa, pv⟩ := p
  have ea : pa = a := hinj _ _ (e.1.trans h3)
  subst ea
  have ev : pv = u.val := e.2
  subst ev
  exact .inr ⟨j, _, u, aget_at hdis (List.mem_of_getElem? hp), h1, hp, h2, h3⟩
theorem MapB.look (h : MapB P k enc w b l) (K : Keyed P k) (ht : P.underlying t = some (.map k e)) {z : Value} (hz : (zeroValue e).run P w = .ok z w) {a : α} {kl : Lit} (ha : keyOf P k (enc a) = some kl) (ok : Bool) :
  LookP P t (.map (some b)) (enc a) ok (match ok with | true => .tuple #[(aget l a).getD z, .bool (aget l a).isSome] | false => (aget l a).getD z) w := by
 obtain ⟨es, c, hb, he⟩ := h.blk
 constructor
 rcases map_find hinj K he h.key h.dis ha (w := w) with ⟨h1, h2⟩ | ⟨j, v, u, h1, h2, _⟩
 ·rw [h1]
  cases ok <;> simp [Instr.lookup, run_underlying ht, MapKept.run_getObj_map hb, K.check w _ ha, h2, hz, Result.andThen]
 ·rw [h1]
  cases ok <;> simp [Instr.lookup, run_underlying ht, MapKept.run_getObj_map hb, K.check w _ ha, h2, Result.andThen]
theorem MapB.upd (h : MapB P k enc w b l) (K : Keyed P k) (ht : P.underlying t = some (.map k e)) {a : α} {kl : Lit} (ha : keyOf P k (enc a) = some kl) (v : Value) :
  ∃ w1, UpdP P t (.map (some b)) (enc a) v w w1 /\ MapB P k enc w1 b (aset l a v) /\ Kp (· = b) w w1 := by
 obtain ⟨es, c, hb, he⟩ := h.blk
 have hkp : ∀ o, Kp (· = b) w (ChangeMaps.setBlock w b o) := fun o => ⟨rfl, rfl, rfl, by simp [ChangeMaps.setBlock], fun i _ hi => ChangeMaps.heap_setBlock_other hb _ (fun e => hi (by rw [e]))⟩
 have hkeys : ∀ p ∈ aset l a v, ∃ kl, keyOf P k (enc p.1) = some kl := fun p hp => by
  rcases aset_keys a v p hp with e | e | e
  ·rw [e]; exact ⟨_, ha⟩
  ·exact h.key p e.1
  ·exact h.key p e
 rcases map_find hinj K he h.key h.dis ha (w := w) with ⟨h1, h2⟩ | ⟨j, x, u, h1, h2, h3, h4, h5⟩
 ·refine ⟨ChangeMaps.setBlock w b (.map (es.push ⟨enc a, v, c⟩) (c + 1)), ⟨?_⟩, ⟨⟨_, _, ChangeMaps.heap_setBlock_same hb _, ?_⟩, hkeys, aset_dis h.dis a v, fun es' c' h' => ?_⟩, hkp _⟩
  rotate_left 2
  ·rw [ChangeMaps.heap_setBlock_same hb] at h'
   cases h'
   have h3 := h.brn es c hb
   refine ⟨?_, fun x hx => ?_⟩
   ·rw [Array.toList_push, List.map_append, List.nodup_append]
    refine ⟨h3.1, by simp, fun x hx y hy e => ?_⟩
    obtain ⟨z, hz, rfl⟩ := List.mem_map.1 hx
    simp at hy
    have := h3.2 z hz
    omega
   ·rw [Array.toList_push] at hx
    rcases List.mem_append.1 hx with hx | hx
    ·have := h3.2 x hx; omega
    ·simp at hx; subst hx; exact Nat.lt_succ_self _
  ·simp [Instr.mapUpdate, run_underlying ht, MapKept.run_getObj_map hb, K.check w _ ha, h2, MapKept.run_setObj_map _ hb, Result.andThen, ChangeMaps.setBlock]
  ·rw [aset_new (aget_none.1 h1)]
   simp [he]
 ·refine ⟨ChangeMaps.setBlock w b (.map (es.modify j fun e' => { e' with key := enc a, val := v }) c), ⟨?_⟩, ⟨⟨_, _, ChangeMaps.heap_setBlock_same hb _, ?_⟩, hkeys, aset_dis h.dis a v, fun es' c' h' => ?_⟩, hkp _⟩
  rotate_left 2
  ·rw [ChangeMaps.heap_setBlock_same hb] at h'
   cases h'
   have h3' := h.brn es c hb
   have eb : (es.modify j fun e' => { e' with key := enc a, val := v }).toList.map (·.born) = es.toList.map (·.born) := by
    have hj : es[j]? = some u := by simpa using h4
    rw [Array.toList_modify, ChangeMaps.modify_eq_set _ _ _ _ h4, List.map_set]
    exact List.ext_getElem? fun i => by
     rw [List.getElem?_set]
     split
     ·rename_i hji
      subst hji
      have hlt : j < (es.toList.map (·.born)).length := by simpa using (List.getElem?_eq_some_iff.1 h4).1
      rw [if_pos hlt, List.getElem?_map, h4]; rfl
     ·rfl
   refine ⟨by rw [eb]; exact h3'.1, fun x hx => ?_⟩
   have hm : x.born ∈ (es.modify j fun e' => { e' with key := enc a, val := v }).toList.map (·.born) := List.mem_map.2 ⟨x, hx, rfl⟩
   rw [eb] at hm
   obtain ⟨y, hy, e⟩ := List.mem_map.1 hm
   rw [<- e]; exact h3'.2 y hy
  ·have hj : es[j]? = some u := by simpa using h4
   simp [Instr.mapUpdate, run_underlying ht, MapKept.run_getObj_map hb, K.check w _ ha, h2, hj, h5, K.stays w ha, MapKept.run_setObj_map _ hb, Result.andThen, ChangeMaps.setBlock]
  ·rw [aset_old h.dis h3, List.map_set, <- he, Array.toList_modify, ChangeMaps.modify_eq_set _ _ _ _ h4, List.map_set]
end
end Go.Proofs.YtfacflbmlfbeeaaGreatDoor
namespace Go.Proofs.YtfacflbmlfbeeaaGreatDoor
open Go.RowKit Go.Maps
theorem mapM_some {α β : Type} {f : α -> Option β} {g : α -> β} : ∀ (l : List α), (∀ x ∈ l, f x = some (g x)) -> l.mapM f = some (l.map g)
 | [], _ => by simp
 | x :: l, h => by
  rw [List.mapM_cons, h x (by simp), mapM_some l fun y hy => h y (by simp [hy])]
  rfl
section
variable {P : Program} {t e : TypeId} {n : Nat}
def byA (l : List Int) : Value := .agg (l.map (Value.int .u8)).toArray
theorem keyLits_bytes (ht : P.underlying t = some (.array n e)) (he : P.underlying e = some (.int .u8)) (hc : P.cellsOf e = 1) (hct : P.cellsOf t = n) {l : List Int} (hl : l.length = n) (hb : ∀ x ∈ l, 0 <= x /\ x <= 255) (D : Nat) :
  P.keyLits (D + 2) t (l.map (Value.int .u8)) = some (l.map (Lit.int .u8)) := by
 unfold Program.keyLits
 rw [ht]
 simp only
 rw [if_pos (by rw [List.length_map, hl, hct]), mapM_some (g := fun i => [Lit.int .u8 (l.getD i 0)]) _ (fun i hi => ?_)]
 ·simp only [Option.map_some, Option.some.injEq]
  have h1 : ∀ r : List Nat, (r.map fun i => [Lit.int .u8 (l.getD i 0)]).flatten = r.map fun i => Lit.int .u8 (l.getD i 0) := fun r => by
   induction r with
   | nil => rfl
   | cons a r ih => rw [List.map_cons, List.map_cons, List.flatten_cons, ih]; rfl
  rw [h1]
  apply List.ext_getElem?
  intro j
  rw [List.getElem?_map, List.getElem?_map]
  rcases Nat.lt_or_ge j n with h | h
  ·rw [List.getElem?_range h, List.getElem?_eq_getElem (by omega)]
   simp [List.getD_eq_getElem?_getD, hl, h]
  ·rw [List.getElem?_eq_none (by simpa using h), List.getElem?_eq_none (by omega)]
   rfl
 ·have hi : i < n := List.mem_range.1 hi
  have : ((l.map (Value.int .u8)).drop (i * P.cellsOf e)).take (P.cellsOf e) = [.int .u8 (l.getD i 0)] := by
   rw [hc, Nat.mul_one, List.drop_eq_getElem_cons (by rw [List.length_map]; omega)]
   simp [List.getD_eq_getElem?_getD, hl, hi]
  rw [this]
  unfold Program.keyLits
  rw [he]
  simp only
  have hx := hb (l.getD i 0) (by
   rw [List.getD_eq_getElem?_getD, List.getElem?_eq_getElem (by omega)]
   simp)
  generalize l.getD i 0 = v at hx
  have hw : (Lit.int .u8 v).wf = true := by simp [Lit.wf, IntKind.min, IntKind.max, IntKind.bits, IntKind.signed]; omega
  simp [hw]
theorem keyOf_bytes (ht : P.underlying t = some (.array n e)) (he : P.underlying e = some (.int .u8)) (hc : P.cellsOf e = 1) (hct : P.cellsOf t = n) (hkt : P.keyType t = true) (hD : 1 <= P.types.size) {l : List Int} (hl : l.length = n) (hb : ∀ x ∈ l, 0 <= x /\ x <= 255) :
  keyOf P t (byA l) = some (.string (keyBytes (l.map (Lit.int .u8)))) := by
 unfold keyOf
 rw [ht]
 simp only
 have hf : (byA l).formed P t = true := by
  unfold byA Value.formed
  rw [ht]
  simp [hl, hct]
 rw [hkt, hf]
 have hk := keyLits_bytes ht he hc hct hl hb (P.types.size - 1)
 rw [show P.types.size - 1 + 2 = P.types.size + 1 by omega] at hk
 have : (byA l).cells.toList = l.map (Value.int .u8) := by simp [byA, Value.cells]
 rw [this, hk]
 rfl
theorem eq_bytes (ht : P.underlying t = some (.array n e)) (he : P.underlying e = some (.int .u8)) (hc : P.cellsOf e = 1) (hct : P.cellsOf t = n) (hkt : P.keyType t = true) (hD : 1 <= P.types.size) (hkm : P.keyTypeAt 3 t = true) (hg : P.eqGuardType P.depth t = false) {l l' : List Int} (hl : l.length = n) (hb : ∀ x ∈ l, 0 <= x /\ x <= 255) (hl' : l'.length = n) (hb' : ∀ x ∈ l', 0 <= x /\ x <= 255) :
  EqP P t (byA l) (byA l') (decide (l = l')) := by
 refine ⟨fun w => ?_, hg, _, _, rfl, rfl⟩
 obtain ⟨r, hr, hi⟩ := run_equal_deep w (m := 3) (by omega) hkm (by rw [ht]) (keyOf_bytes ht he hc hct hkt hD hl hb) (keyOf_bytes ht he hc hct hkt hD hl' hb')
 rw [hr]
 congr 1
 rw [Bool.eq_iff_iff, hi, decide_eq_true_eq]
 constructor
 ·intro h
  have h : keyBytes (l.map (Lit.int .u8)) = keyBytes (l'.map (Lit.int .u8)) := by simpa using h
  have := keyLits_inj (keyLits_bytes ht he hc hct hl hb 0) (keyLits_bytes ht he hc hct hl' hb' 0) h
  exact (List.map_inj_right (fun a b h => by cases h; rfl)).1 this
 ·rintro rfl; rfl
end
end Go.Proofs.YtfacflbmlfbeeaaGreatDoor
namespace Go.Proofs.YtfacflbmlfbeeaaGreatDoor
open Go.Sort
structure Ord3 {α : Type} (cf : α -> α -> Int) : Prop where
 anti : ∀ x y, cf x y = - cf y x
 tlt : ∀ x y z, cf x y < 0 -> cf y z < 0 -> cf x z < 0
 el : ∀ x y z, cf x y = 0 -> cf y z < 0 -> cf x z < 0
 le : ∀ x y z, cf x y < 0 -> cf y z = 0 -> cf x z < 0
theorem Ord3.self {α : Type} {cf : α -> α -> Int} (h : Ord3 cf) (x : α) : cf x x = 0 := by have := h.anti x x; omega
theorem Ord3.le_trans {α : Type} {cf : α -> α -> Int} (h : Ord3 cf) {x y z : α} (h1 : cf x y <= 0) (h2 : cf y z <= 0) (hz : ∀ x y z, cf x y = 0 -> cf y z = 0 -> cf x z = 0) : cf x z <= 0 := by
 rcases Int.lt_or_eq_of_le h1 with a | a <;> rcases Int.lt_or_eq_of_le h2 with b | b
 ·have := h.tlt x y z a b; omega
 ·have := h.le x y z a b; omega
 ·have := h.el x y z a b; omega
 ·have := hz x y z a b; omega
theorem cb_anti : ∀ a b : List UInt8, Lib.compareBytes a b = - Lib.compareBytes b a
 | [], [] => rfl
 | [], _ :: _ => rfl
 | _ :: _, [] => rfl
 | a :: us, b :: bs => by
  have ih := cb_anti us bs
  simp only [Lib.compareBytes]
  by_cases h1 : a < b
  ·have h2 : ¬ b < a := by rw [UInt8.lt_iff_toNat_lt] at h1 ⊢; omega
   rw [if_pos h1, if_neg h2, if_pos h1]
  ·by_cases h2 : b < a
   ·rw [if_neg h1, if_pos h2, if_pos h2]; rfl
   ·rw [if_neg h1, if_neg h2, if_neg h2, if_neg h1]; exact ih
theorem cb_zero : ∀ a b : List UInt8, Lib.compareBytes a b = 0 -> a = b
 | [], [], _ => rfl
 | [], _ :: _, h => by simp [Lib.compareBytes] at h
 | _ :: _, [], h => by simp [Lib.compareBytes] at h
 | a :: us, b :: bs, h => by
  simp only [Lib.compareBytes] at h
  split at h
  ·cases h
  ·split at h
   ·cases h
   ·rename_i h1 h2
    have : a = b := by
     rw [UInt8.lt_iff_toNat_lt] at h1 h2
     exact UInt8.toNat_inj.1 (by omega)
    rw [this, cb_zero us bs h]
theorem cb_self (a : List UInt8) : Lib.compareBytes a a = 0 := by have := cb_anti a a; omega
theorem cb_tlt : ∀ a b c : List UInt8, Lib.compareBytes a b < 0 -> Lib.compareBytes b c < 0 -> Lib.compareBytes a c < 0
 | [], [], _, h, _ => by simp [Lib.compareBytes] at h
 | _ :: _, [], _, h, _ => by simp [Lib.compareBytes] at h
 | [], _ :: _, [], _, h => by simp [Lib.compareBytes] at h
 | [], _ :: _, _ :: _, _, _ => by simp [Lib.compareBytes]
 | _ :: _, _ :: _, [], _, h => by simp [Lib.compareBytes] at h
 | a :: us, b :: bs, c :: cs, h1, h2 => by
  have ih := cb_tlt us bs cs
  simp only [Lib.compareBytes] at h1 h2 ⊢
  simp only [UInt8.lt_iff_toNat_lt] at h1 h2 ⊢
  repeat' split
  all_goals first | decide | (split at h1 <;> split at h2 <;> first | omega | (split at h1 <;> first | omega | (split at h2 <;> first | omega | (apply ih <;> assumption))) | (split at h2 <;> first | omega | (apply ih <;> assumption)))
theorem cb_ord {α : Type} (f : α -> List UInt8) : Ord3 fun x y => Lib.compareBytes (f x) (f y) where
 anti x y := cb_anti _ _
 tlt x y z := cb_tlt _ _ _
 el x y z h1 h2 := by have := cb_zero _ _ h1; rw [this]; exact h2
 le x y z h1 h2 := by have := cb_zero _ _ h2; rw [<- this]; exact h1
theorem ci_ord {α : Type} (f : α -> Int) : Ord3 fun x y => if f x < f y then (-1 : Int) else if f y < f x then 1 else 0 where
 anti x y := by split <;> split <;> omega
 tlt x y z h1 h2 := by split at h1 <;> split at h2 <;> split <;> omega
 el x y z h1 h2 := by split at h1 <;> split at h2 <;> split <;> omega
 le x y z h1 h2 := by split at h1 <;> split at h2 <;> split <;> omega
theorem Ord3.thn {α : Type} {cf cg : α -> α -> Int} (hf : Ord3 cf) (hg : Ord3 cg) (hz : ∀ x y z, cf x y = 0 -> cf y z = 0 -> cf x z = 0) : Ord3 fun x y => if cf x y ≠ 0 then cf x y else cg x y where
 anti x y := by
  have h1 := hf.anti x y
  have h2 := hg.anti x y
  by_cases h : cf x y = 0
  ·rw [if_neg (by omega), if_neg (by omega)]; exact h2
  ·rw [if_pos h, if_pos (by omega)]; exact h1
 tlt x y z h1 h2 := by
  by_cases a : cf x y = 0
  ·rw [if_neg (by omega)] at h1
   by_cases b : cf y z = 0
   ·rw [if_neg (by omega)] at h2
    rw [if_neg (by have := hz x y z a b; omega)]
    exact hg.tlt x y z h1 h2
   ·rw [if_pos b] at h2
    have := hf.el x y z a h2
    rw [if_pos (by omega)]; exact this
  ·rw [if_pos a] at h1
   by_cases b : cf y z = 0
   ·have := hf.le x y z h1 b
    rw [if_pos (by omega)]; exact this
   ·rw [if_pos b] at h2
    have := hf.tlt x y z h1 h2
    rw [if_pos (by omega)]; exact this
 el x y z h1 h2 := by
  by_cases a : cf x y = 0
  ·rw [if_neg (by omega)] at h1
   by_cases b : cf y z = 0
   ·rw [if_neg (by omega)] at h2
    rw [if_neg (by have := hz x y z a b; omega)]
    exact hg.el x y z h1 h2
   ·rw [if_pos b] at h2
    have := hf.el x y z a h2
    rw [if_pos (by omega)]; exact this
  ·rw [if_pos a] at h1; omega
 le x y z h1 h2 := by
  by_cases b : cf y z = 0
  ·rw [if_neg (by omega)] at h2
   by_cases a : cf x y = 0
   ·rw [if_neg (by omega)] at h1
    rw [if_neg (by have := hz x y z a b; omega)]
    exact hg.le x y z h1 h2
   ·rw [if_pos a] at h1
    have := hf.le x y z h1 b
    rw [if_pos (by omega)]; exact this
  ·rw [if_pos b] at h2; omega
theorem Ord3.swo {α : Type} {cf : α -> α -> Int} (h : Ord3 cf) : SWO fun x y => decide (cf x y < 0) where
 irrefl x := by have := h.self x; simp; omega
 trans x y z h1 h2 := by simp at h1 h2 ⊢; exact h.tlt x y z h1 h2
 ntrans x y z h1 h2 := by
  simp at h1 h2 ⊢
  have a1 := h.anti x y
  have a2 := h.anti y z
  have a3 := h.anti x z
  rcases Int.lt_or_eq_of_le h1 with p | p <;> rcases Int.lt_or_eq_of_le h2 with q | q
  ·have := h.tlt z y x (by omega) (by omega); omega
  ·have := h.el z y x (by omega) (by omega); omega
  ·have := h.le z y x (by omega) (by omega); omega
  ·have b1 : cf x y = 0 := by omega
   have b2 : cf y z = 0 := by omega
   apply Classical.byContradiction
   intro hc
   have := h.le x z y (by omega) (by omega)
   omega
end Go.Proofs.YtfacflbmlfbeeaaGreatDoor
namespace Go.Proofs.YtfacflbmlfbeeaaGreatDoor
open Go.RowKit
end Go.Proofs.YtfacflbmlfbeeaaGreatDoor
namespace Go.Proofs.YtfacflbmlfbeeaaGreatDoor
theorem at8_lt (s : ByteArray) (k : Nat) (h : k < s.size) : at8 s k = (s[k].toNat : Int) := by simp [at8, h]
theorem at8_bd (s : ByteArray) (k : Nat) : 0 <= at8 s k /\ at8 s k <= 255 := by
 unfold at8
 split
 ·have := s[k].toNat_lt; omega
 ·omega
theorem toList_nil (s : ByteArray) : (s.toList == []) = decide (s.size = 0) := by
 have h : s.toList.length = s.size := by rw [ByteArray.toList_eq]; exact s.data.length_toList
 cases hs : s.toList with
 | nil => rw [hs] at h; have h : s.size = 0 := h.symm; rw [h]; rfl
 | cons a r =>
  rw [hs] at h
  have h : s.size = r.length + 1 := h.symm
  have : ¬ s.size = 0 := by omega
  rw [decide_eq_false this]
  rfl
theorem count1 {w : World} {F : (List Value -> World -> Prop) -> (List Value -> World -> Nat) -> Int -> World -> Prop} (n : Nat) (hn : (n : Int) <= 9223372036854775807) (J : Nat -> World -> Prop) (h0 : J 0 w)
  (step : ∀ (I : List Value -> World -> Prop) (m : List Value -> World -> Nat) (k : Nat) (w' : World), k <= n -> J k w' ->
   (k < n -> ∀ w'', J (k + 1) w'' -> I [.int .i64 (IntKind.i64.wrap (k + 1))] w'' /\ m [.int .i64 (IntKind.i64.wrap (k + 1))] w'' < m [.int .i64 k] w') -> F I m k w') :
  ∃ (I : List Value -> World -> Prop) (m : List Value -> World -> Nat), I [.int .i64 0] w /\ ∀ (x : Int) (w' : World), I [.int .i64 x] w' -> F I m x w' := by
 refine ⟨fun vs w' => ∃ k : Nat, vs = [.int .i64 k] /\ k <= n /\ J k w', fun vs _ => (match vs with | [.int _ x] => n - x.toNat | _ => 0), ⟨0, rfl, by omega, h0⟩, fun x w' ⟨k, hv, hk, hJ⟩ => ?_⟩
 have hx : x = (k : Int) := by simpa using hv
 subst hx
 refine step _ _ k w' hk hJ (fun hlt w'' hJ' => ?_)
 rw [show IntKind.i64.wrap ((k : Int) + 1) = ((k + 1 : Nat) : Int) from by rw [wr64 (by omega) (by omega)]; omega]
 exact ⟨⟨k + 1, rfl, by omega, hJ'⟩, by simp; omega⟩
end Go.Proofs.YtfacflbmlfbeeaaGreatDoor
namespace Go.Proofs.YtfacflbmlfbeeaaGreatDoor
open Go.RowKit Go.Sort Go.Maps
def idI (f : Nat -> Int) : List Int := (List.range 32).map f
def idB (f : Nat -> Int) : List UInt8 := (idI f).map fun x => x.toNat.toUInt8
theorem idI_get (f : Nat -> Int) {j : Nat} (h : j < 32) : (idI f)[j]? = some (f j) := by simp [idI, h]
theorem arrI_get (k : IntKind) (f : Nat -> Int) : ∀ (n i j : Nat), j < n -> (arrI k f n i)[j]? = some (.int k (f (i + j)))
 | 0, _, j, h => by omega
 | n + 1, i, 0, _ => by simp [arrI]
 | n + 1, i, j + 1, h => by
  simp only [arrI, List.getElem?_cons_succ]
  rw [arrI_get k f n (i + 1) j (by omega)]
  congr 3; omega
theorem grow_of {w w' : World} (h : K0 w w') (hd : w.drawn <= w'.drawn) : ∃ q os', w' = grow (w.drewN q) os' := by
 refine ⟨w'.drawn - w.drawn, w'.heap.extract w.heap.size w'.heap.size, ?_⟩
 have hh : w'.heap = w.heap ++ w'.heap.extract w.heap.size w'.heap.size := by
  apply Array.ext_getElem?
  intro i
  rw [Array.getElem?_append]
  split
  ·rename_i hi; exact h.block i hi (fun h => h)
  ·rename_i hi
   rw [Array.getElem?_extract]
   have := h.size
   by_cases hl : i < w'.heap.size
   ·rw [if_pos (by omega)]; congr 1; omega
   ·rw [if_neg (by omega)]; exact Array.getElem?_eq_none (by omega)
 have h1 := h.os
 have h2 := h.tape
 have h3 := h.output
 obtain ⟨hp, tp, dr, os, out⟩ := w
 obtain ⟨hp', tp', dr', os', out'⟩ := w'
 simp only at hh h1 h2 h3 hd
 subst h1 h2 h3
 simp only [grow, World.drewN]
 congr 1
 omega
theorem idEq {l l' : List Int} (hl : l.length = 32) (hb : ∀ x ∈ l, 0 <= x /\ x <= 255) (hl' : l'.length = 32) (hb' : ∀ x ∈ l', 0 <= x /\ x <= 255) : EqP Tryz.prog 32 (byA l) (byA l') (decide (l = l')) :=
 eq_bytes Tryz.underlying32 Tryz.underlying5 (by kernel_rfl) (by kernel_rfl) (by kernel_rfl) (by decide +kernel) (by kernel_rfl) (by kernel_rfl) hl hb hl' hb'
theorem idI_len (f : Nat -> Int) : (idI f).length = 32 := by simp [idI]
theorem idI_bd {f : Nat -> Int} (h : ∀ j, 0 <= f j /\ f j <= 255) : ∀ x ∈ idI f, 0 <= x /\ x <= 255 := fun x hx => by
 obtain ⟨j, _, rfl⟩ := List.mem_map.1 hx
 exact h j
end Go.Proofs.YtfacflbmlfbeeaaGreatDoor
namespace Go.Proofs.YtfacflbmlfbeeaaGreatDoor
open Go.RowKit
def RowA {α : Type} (f : α -> List Value) (L : Nat) (w : World) (p : Option Addr) (l : List α) : Prop := ∀ k y, l[k]? = some y -> ∃ b o, p = some ⟨b, o, none⟩ /\ AtL w b (o + k * L) (f y)
section
variable {α : Type} {f : α -> List Value} {L : Nat} {w w' : World} {p : Option Addr} {l : List α}
theorem RowA.k0 (h : RowA f L w p l) (hk : K0 w w') : RowA f L w' p l := fun k y hy => by
 obtain ⟨b, o, h1, h2⟩ := h k y hy
 exact ⟨b, o, h1, h2.k0 hk⟩
theorem RowA.get (h : RowA f L w p l) {k : Nat} (hk : k < l.length) : ∃ y b o, l[k]? = some y /\ p = some ⟨b, o, none⟩ /\ AtL w b (o + k * L) (f y) := by
 obtain ⟨y, hy⟩ : ∃ y, l[k]? = some y := ⟨_, List.getElem?_eq_getElem hk⟩
 obtain ⟨b, o, h1, h2⟩ := h k y hy
 exact ⟨y, b, o, hy, h1, h2⟩
theorem RowA.own {base : Nat} {e : TypeId} {n c : Nat} (h : w.ownsRow base e L (.slice p n c) n (l.flatMap f)) (hl : ∀ y, (f y).length = L) (h0 : 0 < L) : RowA f L w p l := fun k y hy => by
 obtain ⟨g, h1, h2⟩ := own_at f h (fun y _ => hl y) h0 hy
 exact ⟨g, 0, h1, h2⟩
theorem RowA.nil : RowA f L w p [] := fun k y hy => by simp at hy
end
theorem AtL.cell {w : World} {b o : Nat} {cs : List Value} (h : AtL w b o cs) {j : Nat} {v : Value} (hj : cs[j]? = some v) : w.cell? ⟨b, o + j, none⟩ = some v := At_get _ _ h.h j v hj
theorem AtL.one {w : World} {b o : Nat} {v : Value} (h : AtL w b o [v]) : w.cell? ⟨b, o, none⟩ = some v := by simpa using h.cell (j := 0) rfl
theorem StrP.get {w : World} {p : Option Addr} {zs : List ByteArray} (h : StrP w p zs) {k : Nat} (hk : k < zs.length) : ∃ z b o, zs[k]? = some z /\ p = some ⟨b, o, none⟩ /\ w.cell? ⟨b, o + k, none⟩ = some (.string z) := by
 obtain ⟨y, hy⟩ : ∃ y, zs[k]? = some y := ⟨_, List.getElem?_eq_getElem hk⟩
 obtain ⟨b, o, h1, h2⟩ := h k y hy
 exact ⟨y, b, o, hy, h1, h2⟩
theorem StrP.k0 {w w' : World} {p : Option Addr} {zs : List ByteArray} (h : StrP w p zs) (hk : K0 w w') : StrP w' p zs := h.kp hk (fun _ _ _ h => h)
theorem inc64 {i : Nat} (h : i < 9223372036854775807) : IntKind.i64.wrap ((i : Int) + 1) = ((i + 1 : Nat) : Int) := by rw [wr64 (by omega) (by omega)]; omega
theorem take_snoc {α : Type} {l : List α} {i : Nat} {x : α} (h : l[i]? = some x) : l.take (i + 1) = l.take i ++ [x] := by rw [List.take_add_one, h]; rfl
theorem put_k0 {w w1 w2 : World} {b o : Nat} {cs : List Value} (h : K0 w w1) (hp : PutB w1 b o cs w2) (hb : w.heap.size <= b) : K0 w w2 := Kp.fresh h hp.kp (fun i hi e => by omega)
theorem put_kept {w1 w2 : World} {b o : Nat} {cs : List Value} {l : List Nat} (hp : PutB w1 b o cs w2) (hb : ∀ n ∈ l, n ≠ b) : KeptL l w1 w2 := .of_kp hp.kp (fun n hn e => hb n hn e)
theorem PutB.blk {w1 w2 : World} {b o : Nat} {cs : List Value} (hp : PutB w1 b o cs w2) {n : Nat} {x : Obj} (h : w1.heap[n]? = some x) (hb : n ≠ b) : w2.heap[n]? = some x := hp.kp.blk h (fun e => hb e)
end Go.Proofs.YtfacflbmlfbeeaaGreatDoor
namespace Go.Proofs.YtfacflbmlfbeeaaGreatDoor
open Go.RowKit
theorem at8_byte {s : ByteArray} {k : Nat} (h : k < s.size) : s.data.toList[k]? = some (at8 s k).toNat.toUInt8 := by
 rw [at8_lt s k h, Array.getElem?_toList, Array.getElem?_eq_getElem (show k < s.data.size from h)]
 congr 1
 show s[k] = _
 rw [Int.toNat_natCast]
 simp
theorem at8_extract (s : ByteArray) (a b j : Nat) (h : a + j < b) (hb : b <= s.size) : at8 (s.extract a b) j = at8 s (a + j) := by
 have h1 : j < (s.extract a b).size := by rw [ByteArray.size_extract]; omega
 rw [at8_lt _ _ h1, at8_lt s (a + j) (by omega)]
 rw [ByteArray.getElem_extract h1]
theorem byte_inj {c d : Int} (hc : 0 <= c /\ c <= 255) (hd : 0 <= d /\ d <= 255) : (d.toNat.toUInt8 == c.toNat.toUInt8) = decide (d = c) := by
 rw [Bool.eq_iff_iff]
 simp only [beq_iff_eq, decide_eq_true_eq]
 constructor
 ·intro h
  have h1 : d.toNat.toUInt8.toNat = c.toNat.toUInt8.toNat := by rw [h]
  rw [UInt8.toNat_ofNat', UInt8.toNat_ofNat'] at h1
  omega
 ·rintro rfl; rfl
theorem ixC_hit : ∀ (l : List UInt8) (c : UInt8) (i : Nat), l[i]? = some c -> (∀ j, j < i -> l[j]? ≠ some c) -> Lib.indexByte l c = i
 | [], c, i, h, _ => by simp at h
 | b :: l, c, 0, h, _ => by simp at h; subst h; simp [Lib.indexByte]
 | b :: l, c, i + 1, h, hn => by
  have ih := ixC_hit l c i (by simpa using h) (fun j hj => by have := hn (j + 1) (by omega); simpa using this)
  have hb : ¬ b = c := by have := hn 0 (by omega); simpa using this
  unfold Lib.indexByte
  simp only [ih]
  have : (b == c) = false := by simpa using hb
  simp [this]
theorem ixC_miss : ∀ (l : List UInt8) (c : UInt8), (∀ j : Nat, l[j]? ≠ some c) -> Lib.indexByte l c = -1
 | [], c, _ => rfl
 | b :: l, c, hn => by
  have ih := ixC_miss l c (fun j => by have := hn (j + 1); simpa using this)
  have hb : ¬ b = c := by have := hn 0; simpa using this
  unfold Lib.indexByte
  have : (b == c) = false := by simpa using hb
  simp [ih, this]
theorem u8C (c : UInt8) {d : Int} (h0 : 0 <= d) (h1 : d <= 255) : (d.toNat.toUInt8 = c) ↔ d = (c.toNat : Int) := by
 have hc := c.toNat_lt
 have := byte_inj (c := (c.toNat : Int)) (d := d) (by omega) ⟨h0, h1⟩
 have ec : ((c.toNat : Int)).toNat.toUInt8 = c := by simp
 rw [ec] at this
 constructor
 ·intro h
  rw [h] at this
  simpa using this.symm
 ·intro h
  rw [h]; exact ec
theorem getC (c : UInt8) {s : ByteArray} {j : Nat} : s.data.toList[j]? = some c ↔ j < s.size /\ at8 s j = (c.toNat : Int) := by
 rcases Nat.lt_or_ge j s.size with h | h
 ·rw [at8_byte h]
  simp only [Option.some.injEq, h, true_and]
  exact u8C c (at8_bd s j).1 (at8_bd s j).2
 ·have : s.data.toList[j]? = none := List.getElem?_eq_none (by simpa using h)
  rw [this]
  simp; omega
def FirstC (c : UInt8) (s : ByteArray) (a i : Nat) : Prop := a <= i /\ i <= s.size /\ (∀ j, a <= j -> j < i -> at8 s j ≠ (c.toNat : Int)) /\ (i < s.size -> at8 s i = (c.toNat : Int))
theorem FirstC.uniq {c : UInt8} {s : ByteArray} {a i k : Nat} (h : FirstC c s a i) (g : FirstC c s a k) : i = k := by
 obtain ⟨h1, h2, h3, h4⟩ := h
 obtain ⟨g1, g2, g3, g4⟩ := g
 rcases Nat.lt_trichotomy i k with h | h | h
 ·exact absurd (h4 (by omega)) (g3 i h1 h)
 ·exact h
 ·exact absurd (g4 (by omega)) (h3 k g1 h)
def findC (c : UInt8) (s : ByteArray) : Nat := s.data.toList.findIdx (· == c)
theorem findC_first (c : UInt8) (s : ByteArray) : FirstC c s 0 (findC c s) := by
 have hl : s.data.toList.length = s.size := s.data.length_toList
 refine ⟨by omega, by rw [<- hl]; exact List.findIdx_le_length, fun j _ hj hc => ?_, fun h => ?_⟩
 ·have hj' : j < s.size := by rw [<- hl]; exact Nat.lt_of_lt_of_le hj List.findIdx_le_length
  have h1 := (getC c).2 ⟨hj', hc⟩
  obtain ⟨hk, e⟩ := List.getElem?_eq_some_iff.1 h1
  have := List.not_of_lt_findIdx hj
  rw [e] at this
  simp at this
 ·have h' : s.data.toList.findIdx (· == c) < s.data.toList.length := by rw [hl]; exact h
  have h1 : (s.data.toList[s.data.toList.findIdx (· == c)] == c) = true := List.findIdx_getElem (w := h')
  refine ((getC c).1 ?_).2
  unfold findC
  rw [List.getElem?_eq_getElem h', beq_iff_eq.1 h1]
def NumOK (s : ByteArray) : Prop := 0 < s.size /\ (∀ i, i < s.size -> 48 <= at8 s i /\ at8 s i <= 57) /\ (1 < s.size -> at8 s 0 ≠ 48)
instance (s : ByteArray) : Decidable (NumOK s) := by unfold NumOK; infer_instance
end Go.Proofs.YtfacflbmlfbeeaaGreatDoor
namespace Go.Proofs.YtfacflbmlfbeeaaGreatDoor
open Go.RowKit
def partsD (s : ByteArray) : List ByteArray := Lib.splitB ⟨#[46]⟩ 0 (Lib.countB s ⟨#[46]⟩) s
theorem partsD_hit {s : ByteArray} {i : Nat} (h : FirstC 46 s 0 i) (hi : i < s.size) : partsD s = s.extract 0 i :: partsD (s.extract (i + 1) s.size) := by
 have hx : Lib.indexB s ⟨#[46]⟩ = i := by
  show Lib.index s.data.toList [46] = i
  rw [Lib.index_one]
  exact ixC_hit _ _ _ ((getC 46).2 ⟨hi, h.2.2.2 hi⟩) (fun j hj hc => h.2.2.1 j (by omega) hj ((getC 46).1 hc).2)
 unfold partsD
 rw [Lib.countB_hit s ⟨#[46]⟩ i (Nat.le_refl 1) hx, Nat.add_comm, Lib.splitB_hit _ _ _ _ i hx]
 rfl
theorem partsD_miss {s : ByteArray} {i : Nat} (h : FirstC 46 s 0 i) (hi : ¬ i < s.size) : partsD s = [s] := by
 have hx : Lib.indexB s ⟨#[46]⟩ = -1 := by
  show Lib.index s.data.toList [46] = -1
  rw [Lib.index_one]
  exact ixC_miss _ _ (fun j hc => h.2.2.1 j (by omega) (by have := ((getC 46).1 hc).1; have := h.2.1; omega) ((getC 46).1 hc).2)
 unfold partsD
 exact Lib.splitB_miss _ _ _ _ hx
def lowC (c : Int) : Bool := decide (97 <= c) && decide (c <= 122)
def compC (c : Int) : Bool := lowC c || (decide (48 <= c) && decide (c <= 57)) || c == 45 || c == 43 || c == 95
def compB (s : ByteArray) : Bool := decide (0 < s.size) && decide (s.size <= 20) && lowC (at8 s 0) && (List.range s.size).all fun i => compC (at8 s i)
def gnE (s : ByteArray) : Int := if 80 < s.size then 5 else if (partsD s).any (fun x => !compB x) = true then 12 else if 10 < (partsD s).length then 9 else 0
def auI (f : Nat -> Int) : List Int := (List.range 16).map f
theorem auI_get (f : Nat -> Int) {j : Nat} (h : j < 16) : (auI f)[j]? = some (f j) := by simp [auI, h]
structure Df where
 id : Nat -> Int
 au : Nat -> Int
 g : ByteArray
 v : Int
 rm : Bool
 md : Bool
 ms : List (Nat -> Int)
 tx : ByteArray
def Df.pl (d : Df) : List Int × List Int × ByteArray × Int × Bool × Bool × List (List Int) × ByteArray := (idI d.id, auI d.au, d.g, d.v, d.rm, d.md, d.ms.map auI, d.tx)
structure DX where
 d : Df
 p : Option Addr
 c : Nat
def auC (a : Nat -> Int) : List Value := arrI .u8 a 16 0
theorem auC_length (a : Nat -> Int) : (auC a).length = 16 := rfl
end Go.Proofs.YtfacflbmlfbeeaaGreatDoor
namespace Go.Proofs.YtfacflbmlfbeeaaGreatDoor
open Go.Sort
end Go.Proofs.YtfacflbmlfbeeaaGreatDoor
namespace Go.Proofs.YtfacflbmlfbeeaaGreatDoor
open Go.RowKit Go.Sort
structure Sb where
 id : Nat -> Int
 g : ByteArray
 tx : ByteArray
 r : Int
 st : Int
 mo : Nat -> Int
 de : Int
 rs : ByteArray
def Sb.pl (x : Sb) : List Int × ByteArray × ByteArray × Int × Int × List Int × Int × ByteArray := (idI x.id, x.g, x.tx, x.r, x.st, auI x.mo, x.de, x.rs)
def sbC (x : Sb) : List Value := arrI .u8 x.id 32 0 ++ (([.string x.g, .string x.tx, .int .i64 x.r, .int .i64 x.st] : List Value) ++ (arrI .u8 x.mo 16 0 ++ ([.int .i64 x.de, .string x.rs] : List Value)))
theorem sbC_length (x : Sb) : (sbC x).length = 54 := rfl
abbrev sbV (x : Sb) : Value := .agg (sbC x).toArray
structure En where
 s : Sb
 le : Bool
 ho : Nat -> Int
 si : Int
def enC (x : En) : List Value := arrI .u8 x.s.id 32 0 ++ (([.string x.s.g, .string x.s.tx, .int .i64 x.s.r, .int .i64 x.s.st] : List Value) ++ (arrI .u8 x.s.mo 16 0 ++ (([.int .i64 x.s.de, .string x.s.rs, .bool x.le] : List Value) ++ (arrI .u8 x.ho 16 0 ++ ([.int .i64 x.si] : List Value)))))
theorem enC_length (x : En) : (enC x).length = 72 := rfl
abbrev enV (x : En) : Value := .agg (enC x).toArray
def sbz : Sb := ⟨fun _ => 0, ⟨#[]⟩, ⟨#[]⟩, 0, 0, fun _ => 0, 0, ⟨#[]⟩⟩
def enz : En := ⟨sbz, false, fun _ => 0, 0⟩
def En.pl (x : En) : (List Int × ByteArray × ByteArray × Int × Int × List Int × Int × ByteArray) × Bool × List Int × Int := (x.s.pl, x.le, auI x.ho, x.si)
abbrev Ky := List Int × ByteArray
def Sb.ky (x : Sb) : Ky := (idI x.id, x.g)
def kyV (k : Ky) : Value := .agg (k.1.map (Value.int .u8) ++ ([.string k.2] : List Value)).toArray
theorem kyV_inj (x y : Ky) (h : kyV x = kyV y) : x = y := by
 unfold kyV at h
 simp only [Value.agg.injEq] at h
 have h := congrArg Array.toList h
 have h : x.1.map (Value.int .u8) ++ ([.string x.2] : List Value) = y.1.map (Value.int .u8) ++ [.string y.2] := h
 obtain ⟨h1, h2⟩ := List.append_inj' h rfl
 have h1 : x.1 = y.1 := (List.map_inj_right (fun a b h => by cases h; rfl)).1 h1
 simp at h2
 exact Prod.ext h1 h2
def lsC : List ByteArray -> List ByteArray -> Int
 | [], [] => 0
 | [], _ :: _ => -1
 | _ :: _, [] => 1
 | a :: r, b :: s => if Lib.compareBytes a.data.toList b.data.toList ≠ 0 then Lib.compareBytes a.data.toList b.data.toList else lsC r s
theorem lsC_anti : ∀ a b, lsC a b = - lsC b a
 | [], [] => rfl
 | [], _ :: _ => rfl
 | _ :: _, [] => rfl
 | a :: r, b :: s => by
  have h1 := cb_anti a.data.toList b.data.toList
  have h2 := lsC_anti r s
  unfold lsC
  split <;> split <;> omega
theorem ba_eq {a b : ByteArray} (h : a.data.toList = b.data.toList) : a = b := ByteArray.ext (Array.toList_inj.1 h)
theorem lsC_zero : ∀ a b, lsC a b = 0 -> a = b
 | [], [], _ => rfl
 | [], _ :: _, h => by cases h
 | _ :: _, [], h => by cases h
 | a :: r, b :: s, h => by
  unfold lsC at h
  split at h
  ·contradiction
  ·rename_i h1
   have h2 : Lib.compareBytes a.data.toList b.data.toList = 0 := by simpa using h1
   rw [lsC_zero r s h, ba_eq (cb_zero _ _ h2)]
theorem lsC_tlt : ∀ a b c, lsC a b < 0 -> lsC b c < 0 -> lsC a c < 0
 | [], [], _, h, _ => by simp [lsC] at h
 | _ :: _, [], _, h, _ => by simp [lsC] at h
 | [], _ :: _, [], _, h => by simp [lsC] at h
 | [], _ :: _, _ :: _, _, _ => by simp [lsC]
 | _ :: _, _ :: _, [], _, h => by simp [lsC] at h
 | a :: r, b :: s, c :: t, h1, h2 => by
  have ih := lsC_tlt r s t
  unfold lsC at h1 h2 ⊢
  have q1 := cb_tlt a.data.toList b.data.toList c.data.toList
  by_cases e1 : Lib.compareBytes a.data.toList b.data.toList = 0
  ·have e : a = b := ba_eq (cb_zero _ _ e1)
   subst e
   rw [if_neg (by omega)] at h1
   by_cases e2 : Lib.compareBytes a.data.toList c.data.toList = 0
   ·rw [if_neg (by omega)] at h2
    rw [if_neg (by omega)]
    exact ih h1 h2
   ·rw [if_pos e2] at h2
    rw [if_pos e2]
    exact h2
  ·rw [if_pos e1] at h1
   by_cases e2 : Lib.compareBytes b.data.toList c.data.toList = 0
   ·have e : b = c := ba_eq (cb_zero _ _ e2)
    subst e
    rw [if_pos e1]
    exact h1
   ·rw [if_pos e2] at h2
    have := q1 h1 h2
    rw [if_pos (by omega)]
    exact this
def gnC (a b : ByteArray) : Int := lsC (partsD a) (partsD b)
theorem lsC_ord : Ord3 fun x y : ByteArray => gnC x y where
 anti x y := lsC_anti _ _
 tlt x y z := lsC_tlt _ _ _
 el x y z h1 h2 := by have := lsC_zero (partsD x) (partsD y) h1; show lsC (partsD x) _ < 0; rw [this]; exact h2
 le x y z h1 h2 := by have := lsC_zero (partsD y) (partsD z) h2; show lsC _ (partsD z) < 0; rw [<- this]; exact h1
def cfI (x y : Sb) : Int := if Lib.compareBytes (idB x.id) (idB y.id) ≠ 0 then Lib.compareBytes (idB x.id) (idB y.id) else gnC x.g y.g
def cfT (x y : Sb) : Int := if x.r < y.r then -1 else if y.r < x.r then 1 else 0
def cfM (x y : Sb) : Int := if cfT x y ≠ 0 then cfT x y else cfI x y
theorem cfI_ord : Ord3 cfI := (cb_ord (fun x : Sb => idB x.id)).thn ⟨fun x y => lsC_ord.anti x.g y.g, fun x y z => lsC_ord.tlt x.g y.g z.g, fun x y z => lsC_ord.el x.g y.g z.g, fun x y z => lsC_ord.le x.g y.g z.g⟩ (fun x y z h1 h2 => by
 have e1 := cb_zero _ _ h1
 have e2 := cb_zero _ _ h2
 rw [e1, e2]; exact cb_self _)
theorem cfM_ord : Ord3 cfM := (ci_ord (fun x : Sb => x.r)).thn cfI_ord (fun x y z h1 h2 => by split at h1 <;> split at h2 <;> split <;> omega)
def inE (x : En) (now : Int) : Bool := x.le && (decide (x.si <= now) && decide (now - x.si < 60))
def blk (x : En) (a : List Int) (now : Int) : Bool := inE x now && !decide (auI x.ho = a)
end Go.Proofs.YtfacflbmlfbeeaaGreatDoor
namespace Go.Proofs.YtfacflbmlfbeeaaGreatDoor
open Go.RowKit
def pur1 (_ : FuncId) (_ : List Value) : Option (Option Prop × Value) := none
theorem pur1_ok {l : List (Nat × List (Nat × Ck))} {t : List (Nat × Nat)} {j : List (Nat × List (Nat × Ck))} {b : List (Nat × Unit)} {r : List (Nat × TypeId)} : PurOK { P := Tryz.prog, loops := l, pur := pur1, tails := t, joins := j, boxes := b, rngs := r } := fun _ _ _ _ h _ => by cases h
end Go.Proofs.YtfacflbmlfbeeaaGreatDoor
namespace Go.Proofs.YtfacflbmlfbeeaaGreatDoor
set_option maxRecDepth 100000
set_option linter.unusedVariables false
def VC_bidx (p : Option Addr) (n : Nat) (c : Nat) (f : FuncId) (fa : Array Value) (fb : Array Value) (w : World) (R : Ending -> World -> Prop) : Prop := ∃ (I : List Value -> World -> Prop) (m : List Value -> World -> Nat), I [Value.int .i64 0] w /\ ∀ (x : Int) (w' : World), I [Value.int .i64 x] w' -> bsp (decide (x < (↑n : Int))) (nn true p fun (b o : Nat) => (0 <= x /\ x < (↑n : Int)) /\ ∃ (x_1 : Int), w'.cell? (Addr.mk b (o + x.toNat) none) = some (.int .u8 x_1) /\ ∃ (f_1 : Nat) (a : Array Value) (b : Array Value), Value.func (Fn.func f) fa fb = Value.func (Fn.func f_1) a b /\ okFn Tryz.prog f_1 = true /\ CallsS Tryz.prog f_1 (appA a [Value.int .u8 x_1] b) w' fun (e : Ending) (w'_1 : World) => ∃ (x_2 : Bool), e = .returned (.bool x_2) /\ KeptL [] w' w'_1 /\ bsp x_2 (R (.returned (.int .i64 x)) w'_1) (I [Value.int .i64 (IntKind.i64.wrap (x + 1))] w'_1 /\
 m [Value.int .i64 (IntKind.i64.wrap (x + 1))] w'_1 < m [Value.int .i64 x] w')) (R (.returned (.int .i64 (-1))) w')
theorem vc_bidx (p : Option Addr) (n : Nat) (c : Nat) (f : FuncId) (fa : Array Value) (fb : Array Value) (w : World) (R : Ending -> World -> Prop) (h : VC_bidx p n c f fa fb w R) : Calls Tryz.prog 134 ([Value.slice p n c, Value.func (Fn.func f) fa fb] : List Value).toArray w R :=
 calls_of_exec2' (loops := [(2, [(8, Ck.int .i64)])]) (tails := []) (joins := []) (boxes := []) (rngs := []) (c := Tryz.f134.body.getD .skip) pur1_ok Tryz.func134 (by kernel_rfl) (by kernel_rfl) h
def VC_bcon (p : Option Addr) (n : Nat) (c : Nat) (f : FuncId) (fa : Array Value) (fb : Array Value) (w : World) (R : Ending -> World -> Prop) : Prop := CallsS Tryz.prog 134 #[.slice p n c, Value.func (Fn.func f) fa fb] w fun (e : Ending) (w' : World) => ∃ (x : Int), e = .returned (.int .i64 x) /\ KeptL [] w w' /\ R (.returned (.bool (decide (x ≥ 0)))) w'
theorem vc_bcon (p : Option Addr) (n : Nat) (c : Nat) (f : FuncId) (fa : Array Value) (fb : Array Value) (w : World) (R : Ending -> World -> Prop) (h : VC_bcon p n c f fa fb w R) : Calls Tryz.prog 111 ([Value.slice p n c, Value.func (Fn.func f) fa fb] : List Value).toArray w R :=
 calls_of_exec2' (loops := []) (tails := []) (joins := []) (boxes := []) (rngs := []) (c := Tryz.f111.body.getD .skip) pur1_ok Tryz.func111 (by kernel_rfl) (by kernel_rfl) h
def VC_sidx (p : Option Addr) (n : Nat) (c : Nat) (f : FuncId) (fa : Array Value) (fb : Array Value) (w : World) (R : Ending -> World -> Prop) : Prop := ∃ (I : List Value -> World -> Prop) (m : List Value -> World -> Nat), I [Value.int .i64 0] w /\ ∀ (x : Int) (w' : World), I [Value.int .i64 x] w' -> bsp (decide (x < (↑n : Int))) (nn true p fun (b o : Nat) => (0 <= x /\ x < (↑n : Int)) /\ ∃ (x_1 : ByteArray), w'.cell? (Addr.mk b (o + x.toNat) none) = some (.string x_1) /\ ∃ (f_1 : Nat) (a : Array Value) (b : Array Value), Value.func (Fn.func f) fa fb = Value.func (Fn.func f_1) a b /\ okFn Tryz.prog f_1 = true /\ CallsS Tryz.prog f_1 (appA a [Value.string x_1] b) w' fun (e : Ending) (w'_1 : World) => ∃ (x_2 : Bool), e = .returned (.bool x_2) /\ KeptL [] w' w'_1 /\ bsp x_2 (R (.returned (.int .i64 x)) w'_1) (I [Value.int .i64 (IntKind.i64.wrap (x + 1))] w'_1 /\
 m [Value.int .i64 (IntKind.i64.wrap (x + 1))] w'_1 < m [Value.int .i64 x] w')) (R (.returned (.int .i64 (-1))) w')
theorem vc_sidx (p : Option Addr) (n : Nat) (c : Nat) (f : FuncId) (fa : Array Value) (fb : Array Value) (w : World) (R : Ending -> World -> Prop) (h : VC_sidx p n c f fa fb w R) : Calls Tryz.prog 109 ([Value.slice p n c, Value.func (Fn.func f) fa fb] : List Value).toArray w R :=
 calls_of_exec2' (loops := [(2, [(8, Ck.int .i64)])]) (tails := []) (joins := []) (boxes := []) (rngs := []) (c := Tryz.f109.body.getD .skip) pur1_ok Tryz.func109 (by kernel_rfl) (by kernel_rfl) h
def VC_scon (p : Option Addr) (n : Nat) (c : Nat) (f : FuncId) (fa : Array Value) (fb : Array Value) (w : World) (R : Ending -> World -> Prop) : Prop := CallsS Tryz.prog 109 #[.slice p n c, Value.func (Fn.func f) fa fb] w fun (e : Ending) (w' : World) => ∃ (x : Int), e = .returned (.int .i64 x) /\ KeptL [] w w' /\ R (.returned (.bool (decide (x ≥ 0)))) w'
theorem vc_scon (p : Option Addr) (n : Nat) (c : Nat) (f : FuncId) (fa : Array Value) (fb : Array Value) (w : World) (R : Ending -> World -> Prop) (h : VC_scon p n c f fa fb w R) : Calls Tryz.prog 88 ([Value.slice p n c, Value.func (Fn.func f) fa fb] : List Value).toArray w R :=
 calls_of_exec2' (loops := []) (tails := []) (joins := []) (boxes := []) (rngs := []) (c := Tryz.f88.body.getD .skip) pur1_ok Tryz.func88 (by kernel_rfl) (by kernel_rfl) h
def VC_gisl (c : Int) (w : World) (R : Ending -> World -> Prop) : Prop := R (.returned (.bool (decide (c ≥ 97) && decide (c <= 122)))) w
theorem vc_gisl (c : Int) (w : World) (R : Ending -> World -> Prop) (h : VC_gisl c w R) : Calls Tryz.prog 110 ([Value.int .u8 c] : List Value).toArray w R :=
 calls_of_exec2' (loops := []) (tails := []) (joins := []) (boxes := []) (rngs := []) (c := Tryz.f110.body.getD .skip) pur1_ok Tryz.func110 (by kernel_rfl) (by kernel_rfl) h
def VC_gcomp (s : ByteArray) (w : World) (R : Ending -> World -> Prop) : Prop := gimp (!(s.toList == [] || decide ((↑s.size : Int) > 20))) ((0 : Int) <= 0 /\ 0 < (↑s.size : Int)) /\ bsp (!(s.toList == [] || decide ((↑s.size : Int) > 20))) (CallsS Tryz.prog 110 #[.int .u8 (at8 s 0)] w fun (e : Ending) (w' : World) => ∃ (x : Bool), e = .returned (.bool x) /\ KeptL [] w w' /\ bsp (false || !x) (R (.returned (.bool false)) w') (∀ (c n : Nat) (w1 : World), s.size <= c -> NewB w'.drew (Obj.cells (bytesRow s c) 5 ((bytesRow s c).size, (bytesRow s c).size + 1)) n w1 -> KeptL [] w' w1 /\ CallsS Tryz.prog 111 #[.slice (some (Addr.mk n 0 none)) s.size c, Value.func (Fn.func 112) #[] #[]] w1 fun (e : Ending) (w' : World) => ∃ (x : Bool), e = .returned (.bool x) /\ KeptL [] w1 w' /\ R (.returned (.bool !x)) w')) (KeptL [] w w /\ R (.returned (.bool false)) w)
theorem vc_gcomp (s : ByteArray) (w : World) (R : Ending -> World -> Prop) (h : VC_gcomp s w R) : Calls Tryz.prog 90 ([Value.string s] : List Value).toArray w R :=
 calls_of_exec2' (loops := []) (tails := []) (joins := []) (boxes := []) (rngs := []) (c := Tryz.f90.body.getD .skip) pur1_ok Tryz.func90 (by kernel_rfl) (by kernel_rfl) h
def VC_gcompC (c : Int) (w : World) (R : Ending -> World -> Prop) : Prop := CallsS Tryz.prog 110 #[.int .u8 c] w fun (e : Ending) (w' : World) => ∃ (x : Bool), e = .returned (.bool x) /\ KeptL [] w w' /\ R (.returned (.bool (!x && (decide (c < 48) || decide (c > 57)) && c != 45 && c != 43 && c != 95))) w'
theorem vc_gcompC (c : Int) (w : World) (R : Ending -> World -> Prop) (h : VC_gcompC c w R) : Calls Tryz.prog 112 ([Value.int .u8 c] : List Value).toArray w R :=
 calls_of_exec2' (loops := []) (tails := []) (joins := []) (boxes := []) (rngs := []) (c := Tryz.f112.body.getD .skip) pur1_ok Tryz.func112 (by kernel_rfl) (by kernel_rfl) h
def VC_gcheck (s : ByteArray) (w : World) (R : Ending -> World -> Prop) : Prop := bsp (decide ((↑s.size : Int) > 80)) (R (.returned (.int .i64 5)) w) (CallsS Tryz.prog 87 #[.string s] w fun (e : Ending) (w' : World) => ∃ (p : Option Addr) (n : Nat) (c : Nat), e = .returned (.slice p n c) /\ KeptL [] w w' /\ CallsS Tryz.prog 88 #[.slice p n c, Value.func (Fn.func 89) #[] #[]] w' fun (e : Ending) (w'_1 : World) => ∃ (x : Bool), e = .returned (.bool x) /\ KeptL [] w' w'_1 /\ bsp x (R (.returned (.int .i64 12)) w'_1) (bsp (decide ((↑n : Int) > 10)) (R (.returned (.int .i64 9)) w'_1) (R (.returned (.int .i64 0)) w'_1)))
theorem vc_gcheck (s : ByteArray) (w : World) (R : Ending -> World -> Prop) (h : VC_gcheck s w R) : Calls Tryz.prog 49 ([Value.string s] : List Value).toArray w R :=
 calls_of_exec2' (loops := []) (tails := []) (joins := []) (boxes := []) (rngs := []) (c := Tryz.f49.body.getD .skip) pur1_ok Tryz.func49 (by kernel_rfl) (by kernel_rfl) h
def VC_gcheckC (s : ByteArray) (w : World) (R : Ending -> World -> Prop) : Prop := CallsS Tryz.prog 90 #[.string s] w fun (e : Ending) (w' : World) => ∃ (x : Bool), e = .returned (.bool x) /\ KeptL [] w w' /\ R (.returned (.bool !x)) w'
theorem vc_gcheckC (s : ByteArray) (w : World) (R : Ending -> World -> Prop) (h : VC_gcheckC s w R) : Calls Tryz.prog 89 ([Value.string s] : List Value).toArray w R :=
 calls_of_exec2' (loops := []) (tails := []) (joins := []) (boxes := []) (rngs := []) (c := Tryz.f89.body.getD .skip) pur1_ok Tryz.func89 (by kernel_rfl) (by kernel_rfl) h
def VC_gparts (s : ByteArray) (w : World) (R : Ending -> World -> Prop) : Prop := CallsS Tryz.prog 108 #[.string s, .string (ByteArray.mk #[46])] w fun (e : Ending) (w' : World) => ∃ (p : Option Addr) (n : Nat) (c : Nat), e = .returned (.slice p n c) /\ KeptL [] w w' /\ R (.returned (.slice p n c)) w'
theorem vc_gparts (s : ByteArray) (w : World) (R : Ending -> World -> Prop) (h : VC_gparts s w R) : Calls Tryz.prog 87 ([Value.string s] : List Value).toArray w R :=
 calls_of_exec2' (loops := []) (tails := []) (joins := []) (boxes := []) (rngs := []) (c := Tryz.f87.body.getD .skip) pur1_ok Tryz.func87 (by kernel_rfl) (by kernel_rfl) h
def VC_xparts (s : ByteArray) (c : Int) (w : World) (R : Ending -> World -> Prop) : Prop := ∃ (I : List Value -> World -> Prop) (m : List Value -> World -> Nat), I [Value.int .i64 0, .string (ByteArray.mk #[]), .slice none 0 0] w /\ ∀ (x : Int) (x_1 : ByteArray) (p : Option Addr) (n c_1 : Nat) (w' : World), I [Value.int .i64 x, .string x_1, .slice p n c_1] w' -> bsp (decide (x < (↑s.size : Int))) ((0 <= x /\ x < (↑s.size : Int)) /\ bsp (at8 s x.toNat == c) (∀ (n_1 : Nat) (W : World), Loc w.heap.size [Blk.mk n_1 9 [Value.string x_1] 2] w' W -> ∃ (base : Nat) (xs : List Value), W.ownsRow base 9 1 (.slice p n c_1) n xs /\ n + 1 <= 9223372036854775807 /\ (n + 1) * 16 <= 140737488355328 /\ base <= W.heap.size /\ ∀ (p' : Option Addr) (c' : Nat) (w'_1 : World), w'_1.ownsRow base 9 1 (.slice p' (n + 1) c') (n + 1) (xs ++ [Value.string x_1]) ->
 W.grownBy w'_1 (Value.slice p n c_1).ownBlock -> AppL W p n c_1 1 p' c' -> KeptL [] W w'_1 /\ I [Value.int .i64 (IntKind.i64.wrap (x + 1)), .string (ByteArray.mk #[]), .slice p' (n + 1) c'] w'_1 /\ m [Value.int .i64 (IntKind.i64.wrap (x + 1)), .string (ByteArray.mk #[]), .slice p' (n + 1) c'] w'_1 < m [Value.int .i64 x, .string x_1, .slice p n c_1] w') ((0 <= x /\ x <= IntKind.i64.wrap (x + 1) /\ IntKind.i64.wrap (x + 1) <= (↑s.size : Int)) /\ (9223372036854775807 - (↑(x_1.size + (s.extract x.toNat (IntKind.i64.wrap (x + 1)).toNat).size) : Int)).NonNeg /\ I [Value.int .i64 (IntKind.i64.wrap (x + 1)), .string (x_1 ++ s.extract x.toNat (IntKind.i64.wrap (x + 1)).toNat), .slice p n c_1] w' /\ m [Value.int .i64 (IntKind.i64.wrap (x + 1)), .string (x_1 ++ s.extract x.toNat (IntKind.i64.wrap (x + 1)).toNat), .slice p n c_1] w' < m [Value.int .i64 x, .string x_1, .slice p n c_1] w'))
 (∀ (n_1 : Nat) (W : World), Loc w.heap.size [Blk.mk n_1 9 [Value.string x_1] 2] w' W -> ∃ (base : Nat) (xs : List Value), W.ownsRow base 9 1 (.slice p n c_1) n xs /\ n + 1 <= 9223372036854775807 /\ (n + 1) * 16 <= 140737488355328 /\ base <= W.heap.size /\ ∀ (p' : Option Addr) (c' : Nat) (w' : World), w'.ownsRow base 9 1 (.slice p' (n + 1) c') (n + 1) (xs ++ [Value.string x_1]) -> W.grownBy w' (Value.slice p n c_1).ownBlock -> AppL W p n c_1 1 p' c' -> KeptL [] W w' /\ R (.returned (.slice p' (n + 1) c')) w')
theorem vc_xparts (s : ByteArray) (c : Int) (w : World) (R : Ending -> World -> Prop) (h : VC_xparts s c w R) : Calls Tryz.prog 94 ([Value.string s, .int .u8 c] : List Value).toArray w R :=
 calls_of_exec2' (loops := [(4, [(7, Ck.int .i64), (6, Ck.str), (5, Ck.slice)])]) (tails := []) (joins := []) (boxes := []) (rngs := []) (c := Tryz.f94.body.getD .skip) pur1_ok Tryz.func94 (by kernel_rfl) (by kernel_rfl) h
def VC_xcomp (s : ByteArray) (w : World) (R : Ending -> World -> Prop) : Prop := gimp (!(decide ((↑s.size : Int) < 1) || decide ((↑s.size : Int) > 20))) ((0 : Int) <= 0 /\ 0 < (↑s.size : Int)) /\ gimp (!(decide ((↑s.size : Int) < 1) || decide ((↑s.size : Int) > 20) || decide (at8 s (Int.toNat 0) < 97))) ((0 : Int) <= 0 /\ 0 < (↑s.size : Int)) /\ bsp (decide ((↑s.size : Int) < 1) || decide ((↑s.size : Int) > 20) || decide (at8 s (Int.toNat 0) < 97) || decide (at8 s (Int.toNat 0) > 122)) (R (.returned (.bool false)) w) (∃ (I : List Value -> World -> Prop) (m : List Value -> World -> Nat), I [Value.int .i64 1] w /\ ∀ (x : Int) (w' : World), I [Value.int .i64 x] w' -> bsp (decide (x < (↑s.size : Int))) ((0 <= x /\ x < (↑s.size : Int)) /\ bsp (!(decide (at8 s x.toNat ≥ 97) && decide (at8 s x.toNat <= 122) || decide (at8 s x.toNat ≥ 48) && decide (at8 s x.toNat <= 57) ||
 at8 s x.toNat == 45 || at8 s x.toNat == 43 || at8 s x.toNat == 95)) (R (.returned (.bool false)) w') (I [Value.int .i64 (IntKind.i64.wrap (x + 1))] w' /\ m [Value.int .i64 (IntKind.i64.wrap (x + 1))] w' < m [Value.int .i64 x] w')) (R (.returned (.bool true)) w'))
theorem vc_xcomp (s : ByteArray) (w : World) (R : Ending -> World -> Prop) (h : VC_xcomp s w R) : Calls Tryz.prog 95 ([Value.string s] : List Value).toArray w R :=
 calls_of_exec2' (loops := [(4, [(3, Ck.int .i64)])]) (tails := []) (joins := []) (boxes := []) (rngs := []) (c := Tryz.f95.body.getD .skip) pur1_ok Tryz.func95 (by kernel_rfl) (by kernel_rfl) h
def VC_xgcheck (s : ByteArray) (w : World) (R : Ending -> World -> Prop) : Prop := bsp (decide ((↑s.size : Int) > 80)) (R (.returned (.int .i64 5)) w) (CallsS Tryz.prog 94 #[.string s, .int .u8 46] w fun (e : Ending) (w' : World) => ∃ (p : Option Addr) (n : Nat) (c : Nat), e = .returned (.slice p n c) /\ KeptL [] w w' /\ ∃ (I : List Value -> World -> Prop) (m : List Value -> World -> Nat), I [Value.int .i64 0] w' /\ ∀ (x : Int) (w' : World), I [Value.int .i64 x] w' -> bsp (decide (x < (↑n : Int))) (nn true p fun (b o : Nat) => (0 <= x /\ x < (↑n : Int)) /\ ∃ (x_1 : ByteArray), w'.cell? (Addr.mk b (o + x.toNat) none) = some (.string x_1) /\ CallsS Tryz.prog 95 #[.string x_1] w' fun (e : Ending) (w'_1 : World) => ∃ (x_2 : Bool), e = .returned (.bool x_2) /\ KeptL [] w' w'_1 /\ bsp (!x_2) (R (.returned (.int .i64 12)) w'_1) (I [Value.int .i64 (IntKind.i64.wrap (x + 1))] w'_1 /\
 m [Value.int .i64 (IntKind.i64.wrap (x + 1))] w'_1 < m [Value.int .i64 x] w')) (bsp (decide ((↑n : Int) > 10)) (R (.returned (.int .i64 9)) w') (R (.returned (.int .i64 0)) w')))
theorem vc_xgcheck (s : ByteArray) (w : World) (R : Ending -> World -> Prop) (h : VC_xgcheck s w R) : Calls Tryz.prog 53 ([Value.string s] : List Value).toArray w R :=
 calls_of_exec2' (loops := [(5, [(4, Ck.int .i64)])]) (tails := []) (joins := []) (boxes := []) (rngs := []) (c := Tryz.f53.body.getD .skip) pur1_ok Tryz.func53 (by kernel_rfl) (by kernel_rfl) h
end Go.Proofs.YtfacflbmlfbeeaaGreatDoor
namespace Go.Proofs
open Go.Shelf
def Tryz.lays122_ren : Go.Shelf.Ren := ⟨fun | 122 => 100 | 215 => 127 | n => n, fun | 3 => 3 | 4 => 4 | n => n, fun | n => n⟩
theorem Tryz.lays122 : Go.Proofs.Lays.n122 Tryz.prog Tryz.lays122_ren := {
 mixed := by kernel_rfl
 f122 := Tryz.func100.trans (congrArg some (by kernel_rfl))
 f215 := Tryz.func127.trans (congrArg some (by kernel_rfl))
 t3 := Tryz.underlying3
 a3 := Tryz.isAgg3
 z3 := Tryz.sizeOf3
 v3 := Tryz.zeroValue3
 t4 := Tryz.underlying4
 a4 := Tryz.isAgg4
 z4 := Tryz.sizeOf4
 v4 := Tryz.zeroValue4 }
open Go.RowKit in
theorem Tryz.cmp_Compare_int (x y : Int) (w : World) :
  Calls Tryz.prog 100 #[.int .i64 x, .int .i64 y] w fun e w' => e = .returned (.int .i64 (Lib.compareInt x y)) /\ w' = w := Any.cmp_Compare_int Tryz.lays122 x y w
def Tryz.lays146_ren : Go.Shelf.Ren := ⟨fun | 146 => 108 | 221 => 133 | 268 => 154 | 138 => 155 | 143 => 156 | 195 => 164 | 197 => 165 | 218 => 166 | 219 => 167 | 260 => 169 | 217 => 170 | 225 => 171 | 224 => 172 | 267 => 173 | 266 => 174 | 314 => 175 | n => n, fun | 9 => 9 | 31 => 120 | 3 => 3 | 4 => 4 | 0 => 0 | 105 => 210 | 21 => 21 | 5 => 5 | 46 => 148 | 119 => 214 | 139 => 217 | 138 => 216 | 146 => 218 | 51 => 179 | n => n, fun | 1 => 0 | 3 => 1 | 4 => 2 | n => n⟩
theorem Tryz.lays146 : Go.Proofs.Lays.n146 Tryz.prog Tryz.lays146_ren := {
 mixed := by kernel_rfl
 f138 := Tryz.func155.trans (congrArg some (by kernel_rfl))
 f143 := Tryz.func156.trans (congrArg some (by kernel_rfl))
 f146 := Tryz.func108.trans (congrArg some (by kernel_rfl))
 f195 := Tryz.func164.trans (congrArg some (by kernel_rfl))
 f197 := Tryz.func165.trans (congrArg some (by kernel_rfl))
 f217 := Tryz.func170.trans (congrArg some (by kernel_rfl))
 f218 := Tryz.func166.trans (congrArg some (by kernel_rfl))
 f219 := Tryz.func167.trans (congrArg some (by kernel_rfl))
 f221 := Tryz.func133.trans (congrArg some (by kernel_rfl))
 f224 := Tryz.func172.trans (congrArg some (by kernel_rfl))
 f225 := Tryz.func171.trans (congrArg some (by kernel_rfl))
 f260 := Tryz.func169.trans (congrArg some (by kernel_rfl))
 f266 := Tryz.func174.trans (congrArg some (by kernel_rfl))
 f267 := Tryz.func173.trans (congrArg some (by kernel_rfl))
 f268 := Tryz.func154.trans (congrArg some (by kernel_rfl))
 f314 := Tryz.func175.trans (congrArg some (by kernel_rfl))
 t0 := Tryz.underlying0
 a0 := Tryz.isAgg0
 z0 := Tryz.sizeOf0
 v0 := Tryz.zeroValue0
 t3 := Tryz.underlying3
 a3 := Tryz.isAgg3
 z3 := Tryz.sizeOf3
 v3 := Tryz.zeroValue3
 t4 := Tryz.underlying4
 a4 := Tryz.isAgg4
 z4 := Tryz.sizeOf4
 v4 := Tryz.zeroValue4
 t5 := Tryz.underlying5
 a5 := Tryz.isAgg5
 z5 := Tryz.sizeOf5
 v5 := Tryz.zeroValue5
 t9 := Tryz.underlying9
 a9 := Tryz.isAgg9
 z9 := Tryz.sizeOf9
 v9 := Tryz.zeroValue9
 t21 := Tryz.underlying21
 a21 := Tryz.isAgg21
 z21 := Tryz.sizeOf21
 v21 := Tryz.zeroValue21
 t31 := Tryz.underlying120
 a31 := Tryz.isAgg120
 z31 := Tryz.sizeOf120
 v31 := Tryz.zeroValue120
 t46 := Tryz.underlying148
 a46 := Tryz.isAgg148
 z46 := Tryz.sizeOf148
 v46 := Tryz.zeroValue148
 t51 := Tryz.underlying179
 a51 := Tryz.isAgg179
 z51 := Tryz.sizeOf179
 v51 := Tryz.zeroValue179
 t105 := Tryz.underlying210
 a105 := Tryz.isAgg210
 z105 := Tryz.sizeOf210
 v105 := Tryz.zeroValue210
 t119 := Tryz.underlying214
 a119 := Tryz.isAgg214
 z119 := Tryz.sizeOf214
 t138 := Tryz.underlying216
 a138 := Tryz.isAgg216
 z138 := Tryz.sizeOf216
 v138 := Tryz.zeroValue216
 t139 := Tryz.underlying217
 a139 := Tryz.isAgg217
 z139 := Tryz.sizeOf217
 v139 := Tryz.zeroValue217
 t146 := Tryz.underlying218
 a146 := Tryz.isAgg218
 z146 := Tryz.sizeOf218
 v146 := Tryz.zeroValue218
 g1 := by kernel_rfl
 g3 := by kernel_rfl
 g4 := by kernel_rfl }
open Go.RowKit Go.Lib in
theorem Tryz.strings_Split (s sep : ByteArray) (m : Int) (w : World) (hs : s.size < 4294967281) (hm : w.cell? ⟨0, 0, none⟩ = some (.int .i64 m)) (h1 : 1 <= sep.size) :
  Calls Tryz.prog 108 #[.string s, .string sep] w fun e w' =>
   e = .returned (.slice (some ⟨w.heap.size, 0, none⟩) (Lib.countB s sep + 1) (Lib.countB s sep + 1)) /\ w' = w.alloc (.cells ((Lib.splitB sep 0 (Lib.countB s sep) s).map Value.string).toArray 9) := Any.strings_Split Tryz.lays146 (by kernel_rfl) s sep m w hs hm h1
end Go.Proofs
namespace Go.Proofs.YtfacflbmlfbeeaaGreatDoor
open Go.RowKit
def GW (w : World) : Prop := ∃ m, w.cell? ⟨0, 0, none⟩ = some (.int .i64 m)
theorem GW.kp {M : Nat -> Prop} {w w' : World} (h : GW w) (hk : Kp M w w') (hm : ¬ M 0) : GW w' := by
 obtain ⟨m, h⟩ := h; exact ⟨m, hk.cell' h hm⟩
theorem byte_cell {w : World} {g : Nat} {s : ByteArray} {c : Nat} {t : TypeId} {fz : Nat × Nat} (h : w.heap[g]? = some (.cells (bytesRow s c) t fz)) {k : Nat} (hk : k < s.size) : w.cell? ⟨g, 0 + k, none⟩ = some (.int .u8 (at8 s k)) := by
 rw [cell_block h, Nat.zero_add, bytesRow_at s c k hk, at8_lt s k hk]
 rfl
theorem T0.at8_extract (s : ByteArray) (a b j : Nat) (h : a + j < b) (hb : b <= s.size) : at8 (s.extract a b) j = at8 s (a + j) := Go.Proofs.YtfacflbmlfbeeaaGreatDoor.at8_extract s a b j h hb
theorem nn_is {g : Bool} {p : Option Addr} {b o : Nat} {K : Nat -> Nat -> Prop} (hp : p = some ⟨b, o, none⟩) (h : K b o) : nn g p K := by subst hp; exact h
theorem nneg {a : Nat} (h : a <= 4611686018427387904) : ((9223372036854775807 : Int) - (a : Int)).NonNeg :=
 Int.nonneg_def.2 ⟨9223372036854775807 - a, by omega⟩
theorem str_get {w : World} {p : Option Addr} {zs : List ByteArray} (h : StrP w p zs) {k : Nat} (hk : k < zs.length) : ∃ z b o, zs[k]? = some z /\ p = some ⟨b, o, none⟩ /\ w.cell? ⟨b, o + k, none⟩ = some (.string z) := h.get hk
theorem bcon_any (s : ByteArray) (b c : Nat) (f : FuncId) (fa fb : Array Value) (g : Int -> Bool) (w : World) (hS : ∀ k, k < s.size -> w.cell? ⟨b, 0 + k, none⟩ = some (.int .u8 (at8 s k))) (hs : s.size <= 1073741824) (hok : okFn Tryz.prog f = true)
  (hF : ∀ x, ∀ w1, K0 w w1 -> Calls Tryz.prog f (appA fa [.int .u8 x] fb) w1 fun e w2 => e = .returned (.bool (g x)) /\ K0 w1 w2) :
  Calls Tryz.prog 111 #[.slice (some ⟨b, 0, none⟩) s.size c, .func (.func f) fa fb] w fun e w' => e = .returned (.bool ((List.range s.size).any fun i => g (at8 s i))) /\ K0 w w' := by
 have hidx : Calls Tryz.prog 134 #[.slice (some ⟨b, 0, none⟩) s.size c, .func (.func f) fa fb] w fun e w' => (∃ x : Int, e = .returned (.int .i64 x) /\ decide (x ≥ 0) = (List.range s.size).any fun i => g (at8 s i)) /\ K0 w w' := by
  refine vc_bidx (some ⟨b, 0, none⟩) s.size c f fa fb w _ ?_
  refine ⟨fun vs w' => ∃ i : Nat, vs = [.int .i64 (i : Int)] /\ i <= s.size /\ (∀ j, j < i -> g (at8 s j) = false) /\ K0 w w',
   fun vs _ => (match vs with | .int _ x :: _ => s.size - x.toNat | _ => 0), ⟨0, rfl, by omega, (fun j h => by omega), .refl _ _⟩, ?_⟩
  rintro x w1 ⟨i, hv, hi, hall, k1⟩
  simp only [List.cons.injEq, Value.int.injEq, true_and, and_true] at hv
  subst hv
  refine bsp_intro (fun hlt => ?_) (fun hge => ?_)
  ·have hlt : i < s.size := by simp at hlt; omega
   rw [Int.toNat_natCast]
   refine nn_is rfl ⟨⟨by omega, by omega⟩, at8 s i, k1.cell' (hS i hlt) (fun h => h), f, fa, fb, rfl, hok, ⟨(hF (at8 s i) w1 k1).mono fun e w2 ⟨he, k2⟩ => ⟨_, he, .of_k0 k2, bsp_intro (fun hg => ?_) (fun hg => ?_)⟩⟩⟩
   ·refine ⟨⟨i, rfl, ?_⟩, k1.trans k2⟩
    have : ((List.range s.size).any fun i => g (at8 s i)) = true := List.any_eq_true.2 ⟨i, List.mem_range.2 hlt, hg⟩
    rw [this]; simp
   ·refine ⟨⟨i + 1, by rw [inc64 (by omega)], hlt, fun j hj => ?_, k1.trans k2⟩, by rw [inc64 (by omega)]; simp only [Int.toNat_natCast]; omega⟩
    by_cases e : j = i
    ·rw [e]; exact hg
    ·exact hall j (by omega)
  ·have hi : i = s.size := by simp at hge; omega
   subst hi
   refine ⟨⟨-1, rfl, ?_⟩, k1⟩
   have : ((List.range s.size).any fun i => g (at8 s i)) = false := List.any_eq_false.2 fun j hj => by simpa using hall j (List.mem_range.1 hj)
   rw [this]; rfl
 refine vc_bcon (some ⟨b, 0, none⟩) s.size c f fa fb w _ ⟨hidx.mono fun e w1 ⟨⟨x, he, hx⟩, k1⟩ => ⟨_, he, .of_k0 k1, by rw [hx], k1⟩⟩
theorem scon_any (l : List ByteArray) (p : Option Addr) (c : Nat) (f : FuncId) (fa fb : Array Value) (g : ByteArray -> Bool) (w : World) (hR : StrP w p l) (hs : l.length <= 1073741824) (hok : okFn Tryz.prog f = true)
  (hF : ∀ x, ∀ w1, K0 w w1 -> Calls Tryz.prog f (appA fa [.string x] fb) w1 fun e w2 => e = .returned (.bool (g x)) /\ K0 w1 w2) :
  Calls Tryz.prog 88 #[.slice p l.length c, .func (.func f) fa fb] w fun e w' => e = .returned (.bool (l.any g)) /\ K0 w w' := by
 have hidx : Calls Tryz.prog 109 #[.slice p l.length c, .func (.func f) fa fb] w fun e w' => (∃ x : Int, e = .returned (.int .i64 x) /\ decide (x ≥ 0) = l.any g) /\ K0 w w' := by
  refine vc_sidx p l.length c f fa fb w _ ?_
  refine ⟨fun vs w' => ∃ i : Nat, vs = [.int .i64 (i : Int)] /\ i <= l.length /\ (∀ j z, j < i -> l[j]? = some z -> g z = false) /\ K0 w w',
   fun vs _ => (match vs with | .int _ x :: _ => l.length - x.toNat | _ => 0), ⟨0, rfl, by omega, (fun j z h => by omega), .refl _ _⟩, ?_⟩
  rintro x w1 ⟨i, hv, hi, hall, k1⟩
  simp only [List.cons.injEq, Value.int.injEq, true_and, and_true] at hv
  subst hv
  refine bsp_intro (fun hlt => ?_) (fun hge => ?_)
  ·have hlt : i < l.length := by simp at hlt; omega
   obtain ⟨z, b, o, hz, hp, hc⟩ := str_get (hR.k0 k1) hlt
   rw [Int.toNat_natCast]
   refine nn_is hp ⟨⟨by omega, by omega⟩, z, hc, f, fa, fb, rfl, hok, ⟨(hF z w1 k1).mono fun e w2 ⟨he, k2⟩ => ⟨_, he, .of_k0 k2, bsp_intro (fun hg => ?_) (fun hg => ?_)⟩⟩⟩
   ·refine ⟨⟨i, rfl, ?_⟩, k1.trans k2⟩
    have : l.any g = true := List.any_eq_true.2 ⟨z, List.mem_of_getElem? hz, hg⟩
    rw [this]; simp
   ·refine ⟨⟨i + 1, by rw [inc64 (by omega)], hlt, fun j y hj hy => ?_, k1.trans k2⟩, by rw [inc64 (by omega)]; simp only [Int.toNat_natCast]; omega⟩
    by_cases e : j = i
    ·rw [e, hz] at hy; cases hy; exact hg
    ·exact hall j y (by omega) hy
  ·have hi : i = l.length := by simp at hge; omega
   subst hi
   refine ⟨⟨-1, rfl, ?_⟩, k1⟩
   have : l.any g = false := List.any_eq_false.2 fun z hz => by
    obtain ⟨j, hj, e⟩ := List.getElem_of_mem hz
    simpa using hall j z hj (by rw [List.getElem?_eq_getElem hj, e])
   rw [this]; rfl
 refine vc_scon p l.length c f fa fb w _ ⟨hidx.mono fun e w1 ⟨⟨x, he, hx⟩, k1⟩ => ⟨_, he, .of_k0 k1, by rw [hx], k1⟩⟩
theorem gisl_any (c : Int) (w : World) : Calls Tryz.prog 110 #[.int .u8 c] w fun e w' => e = .returned (.bool (lowC c)) /\ K0 w w' :=
 vc_gisl c w _ ⟨by unfold lowC; simp, .refl _ _⟩
theorem gcompC_any (c : Int) (w : World) : Calls Tryz.prog 112 #[.int .u8 c] w fun e w' => e = .returned (.bool (!compC c)) /\ K0 w w' := by
 refine vc_gcompC c w _ ⟨(gisl_any c w).mono fun e w1 ⟨he, k1⟩ => ⟨_, he, .of_k0 k1, ?_, k1⟩⟩
 congr 2
 unfold compC
 rw [Bool.eq_iff_iff]
 cases lowC c <;> simp <;> omega
theorem compB_eq {s : ByteArray} (h0 : 0 < s.size) (h1 : s.size <= 20) (h2 : lowC (at8 s 0) = true) : compB s = !((List.range s.size).any fun i => !compC (at8 s i)) := by
 unfold compB
 rw [decide_eq_true h0, decide_eq_true h1, h2, List.not_any_eq_all_not]
 simp
theorem gcomp_any (s : ByteArray) (w : World) : Calls Tryz.prog 90 #[.string s] w fun e w' => e = .returned (.bool (compB s)) /\ K0 w w' := by
 refine vc_gcomp s w _ ?_
 unfold VC_gcomp
 rw [toList_nil]
 refine ⟨gimp_intro fun h => ?_, bsp_intro (fun h => ?_) (fun h => ?_)⟩
 ·simp only [Bool.not_eq_true', Bool.or_eq_false_iff, decide_eq_false_iff_not] at h
  omega
 ·simp only [Bool.not_eq_true', Bool.or_eq_false_iff, decide_eq_false_iff_not] at h
  have h0 : 0 < s.size := by omega
  have h1 : s.size <= 20 := by omega
  refine ⟨(gisl_any (at8 s 0) w).mono fun e w1 ⟨he, k1⟩ => ⟨_, he, .of_k0 k1, bsp_intro (fun h2 => ?_) (fun h2 => ?_)⟩⟩
  ·have h2 : lowC (at8 s 0) = false := by simpa using h2
   have : compB s = false := by unfold compB; rw [h2]; simp
   rw [this]; exact ⟨rfl, k1⟩
  ·have h2 : lowC (at8 s 0) = true := by simpa using h2
   intro c n w2 hc hn
   have k2 : K0 w1 w2 := (hn.kp (fun _ => False)).of_drew
   refine ⟨.of_k0 k2, ⟨(bcon_any s n c 112 #[] #[] (fun c => !compC c) w2 (fun k hk => byte_cell hn.block hk) (by omega) (by kernel_rfl) (fun x w3 _ => gcompC_any x w3)).mono fun e w3 ⟨he, k3⟩ => ⟨_, he, .of_k0 k3, ?_, (k1.trans k2).trans k3⟩⟩⟩
   rw [compB_eq h0 h1 h2]
 ·have h : s.size = 0 \/ 20 < s.size := by
   simp only [Bool.not_eq_false', Bool.or_eq_true, decide_eq_true_eq] at h
   omega
  have : compB s = false := by
   unfold compB
   rcases h with h | h
   ·rw [decide_eq_false (by omega)]; rfl
   ·rw [decide_eq_false (show ¬ s.size <= 20 by omega)]; simp
  rw [this]
  exact ⟨.refl _ _, rfl, .refl _ _⟩
theorem gcheckC_any (s : ByteArray) (w : World) : Calls Tryz.prog 89 #[.string s] w fun e w' => e = .returned (.bool (!compB s)) /\ K0 w w' :=
 vc_gcheckC s w _ ⟨(gcomp_any s w).mono fun _ _ ⟨he, k1⟩ => ⟨_, he, .of_k0 k1, rfl, k1⟩⟩
theorem gparts_any (s : ByteArray) (w : World) (hs : s.size <= 1073741824) (hG : GW w) : Calls Tryz.prog 87 #[.string s] w fun e w' => (∃ (p : Option Addr) (c : Nat), e = .returned (.slice p (partsD s).length c) /\ StrP w' p (partsD s)) /\ K0 w w' := by
 refine vc_gparts s w _ ?_
 obtain ⟨mm, hG1⟩ := hG
 refine ⟨(Tryz.strings_Split s ⟨#[46]⟩ mm w (by omega) hG1 (by decide)).mono fun e w2 ⟨he, hw2⟩ => ?_⟩
 have hlen : (partsD s).length = Lib.countB s ⟨#[46]⟩ + 1 := Lib.splitB_all ⟨#[46]⟩ (by decide) 0 _ s rfl
 have hn2 : NewB w (.cells ((partsD s).map .string).toArray 9) w.heap.size w2 := ⟨rfl, hw2⟩
 rw [<- hlen] at he
 have k2 : K0 w w2 := hn2.kp _
 refine ⟨_, _, _, he, .of_k0 k2, ⟨_, _, rfl, fun k z hk => ⟨_, 0, rfl, ?_⟩⟩, k2⟩
 rw [Nat.zero_add]
 exact cell_at hn2.block (by simp [hk])
theorem partsD_len {s : ByteArray} : (partsD s).length = Lib.countB s ⟨#[46]⟩ + 1 := Lib.splitB_all ⟨#[46]⟩ (by decide) 0 _ s rfl
theorem partsD_le : ∀ (n : Nat) (s : ByteArray), s.size <= n -> (partsD s).length <= s.size + 1
 | n, s, h => by
  have hf := findC_first 46 s
  by_cases hi : findC 46 s < s.size
  ·cases n with
   | zero => omega
   | succ n =>
    rw [partsD_hit hf hi, List.length_cons]
    have hz : (s.extract (findC 46 s + 1) s.size).size = s.size - (findC 46 s + 1) := by rw [ByteArray.size_extract]; omega
    have := partsD_le n (s.extract (findC 46 s + 1) s.size) (by omega)
    omega
  ·rw [partsD_miss hf hi]; simp
theorem gcheck_any (s : ByteArray) (w : World) (hG : GW w) : Calls Tryz.prog 49 #[.string s] w fun e w' => e = .returned (.int .i64 (gnE s)) /\ K0 w w' := by
 refine vc_gcheck s w _ (bsp_intro (fun h => ?_) (fun h => ?_))
 ·have : gnE s = 5 := by unfold gnE; rw [if_pos (by simp at h; omega)]
  rw [this]; exact ⟨rfl, .refl _ _⟩
 have h80 : ¬ 80 < s.size := by simp at h; omega
 have hle := partsD_le s.size s (Nat.le_refl _)
 unfold gnE
 rw [if_neg h80]
 refine ⟨(gparts_any s w (by omega) hG).mono fun e w1 ⟨⟨p, c, he, hR⟩, k1⟩ => ⟨_, _, _, he, .of_k0 k1, ?_⟩⟩
 refine ⟨(scon_any (partsD s) p c 89 #[] #[] (fun x => !compB x) w1 hR (by omega) (by kernel_rfl) (fun x w2 _ => gcheckC_any x w2)).mono fun e w2 ⟨he, k2⟩ => ⟨_, he, .of_k0 k2, bsp_intro (fun h => ?_) (fun h => ?_)⟩⟩
 ·rw [if_pos h]; exact ⟨rfl, k1.trans k2⟩
 rw [if_neg (by rw [h]; decide)]
 refine bsp_intro (fun h => ?_) (fun h => ?_)
 ·rw [if_pos (by simp at h; omega)]; exact ⟨rfl, k1.trans k2⟩
 ·rw [if_neg (by simp at h; omega)]; exact ⟨rfl, k1.trans k2⟩
theorem xcomp_any (s : ByteArray) (w : World) : Calls Tryz.prog 95 #[.string s] w fun e w' => e = .returned (.bool (compB s)) /\ K0 w w' := by
 refine vc_xcomp s w _ ⟨gimp_intro fun h => ?_, gimp_intro fun h => ?_, bsp_intro (fun h => ?_) (fun h => ?_)⟩
 ·simp only [Bool.not_eq_true', Bool.or_eq_false_iff, decide_eq_false_iff_not] at h; omega
 ·simp only [Bool.not_eq_true', Bool.or_eq_false_iff, decide_eq_false_iff_not] at h; omega
 ·have : compB s = false := by
   simp only [Bool.or_eq_true, decide_eq_true_eq] at h
   unfold compB
   by_cases h1 : 0 < s.size /\ s.size <= 20
   ·have : lowC (at8 s 0) = false := by
     unfold lowC
     rcases h with ((h | h) | h) | h
     ·omega
     ·omega
     ·have h : at8 s 0 < 97 := h
      rw [decide_eq_false (by omega)]; rfl
     ·have h : at8 s 0 > 122 := h
      rw [decide_eq_false (show ¬ at8 s 0 <= 122 by omega)]; simp
    rw [this]; simp
   ·by_cases h2 : 0 < s.size
    ·rw [decide_eq_false (show ¬ s.size <= 20 by omega)]; simp
    ·rw [decide_eq_false h2]; rfl
  rw [this]; exact ⟨rfl, .refl _ _⟩
 simp only [Bool.or_eq_false_iff, decide_eq_false_iff_not] at h
 have h2 : lowC (at8 s 0) = true := by
  have a1 : ¬ at8 s 0 < 97 := h.1.2
  have a2 : ¬ at8 s 0 > 122 := h.2
  unfold lowC
  rw [decide_eq_true (by omega), decide_eq_true (by omega)]; rfl
 have hc0 : compC (at8 s 0) = true := by unfold compC; rw [h2]; rfl
 refine ⟨fun vs w' => ∃ i : Nat, vs = [.int .i64 (i : Int)] /\ 1 <= i /\ i <= s.size /\ (∀ j, j < i -> compC (at8 s j) = true) /\ K0 w w',
  fun vs _ => (match vs with | .int _ x :: _ => s.size - x.toNat | _ => 0), ⟨1, rfl, by omega, by omega, (fun j h => by have e : j = 0 := (by omega); rw [e]; exact hc0), .refl _ _⟩, ?_⟩
 rintro x w1 ⟨i, hv, h1i, hi, hall, k1⟩
 simp only [List.cons.injEq, Value.int.injEq, true_and, and_true] at hv
 subst hv
 refine bsp_intro (fun hlt => ?_) (fun hge => ?_)
 ·have hlt : i < s.size := by simp at hlt; omega
  rw [Int.toNat_natCast]
  have e : (!(decide (at8 s i ≥ 97) && decide (at8 s i <= 122) || decide (at8 s i ≥ 48) && decide (at8 s i <= 57) || at8 s i == 45 || at8 s i == 43 || at8 s i == 95)) = !compC (at8 s i) := by
   unfold compC lowC; rfl
  rw [e]
  refine ⟨⟨by omega, by omega⟩, bsp_intro (fun hb => ?_) (fun hb => ?_)⟩
  ·have hb : compC (at8 s i) = false := by simpa using hb
   have : compB s = false := by
    unfold compB
    have : ((List.range s.size).all fun i => compC (at8 s i)) = false := by
     rw [List.all_eq_false]; exact ⟨i, List.mem_range.2 hlt, by simp [hb]⟩
    rw [this]; simp
   rw [this]; exact ⟨rfl, k1⟩
  ·have hb : compC (at8 s i) = true := by simpa using hb
   refine ⟨⟨i + 1, by rw [inc64 (by omega)], by omega, hlt, fun j hj => ?_, k1⟩, by rw [inc64 (by omega)]; simp only [Int.toNat_natCast]; omega⟩
   by_cases e : j = i
   ·rw [e]; exact hb
   ·exact hall j (by omega)
 ·have hi : i = s.size := by simp at hge; omega
  subst hi
  have : compB s = true := by
   unfold compB
   rw [decide_eq_true (by omega), decide_eq_true (by omega), h2]
   simp only [Bool.true_and, List.all_eq_true]
   exact fun j hj => hall j (List.mem_range.1 hj)
  rw [this]; exact ⟨rfl, k1⟩
theorem ext_nil (s : ByteArray) (i : Nat) : s.extract i i = ⟨#[]⟩ := by
 apply ByteArray.ext_getElem
 ·rw [ByteArray.size_extract]
  show min i s.size - i = 0
  omega
 ·intro k hk _
  rw [ByteArray.size_extract] at hk
  omega
theorem xparts_any (s : ByteArray) (w : World) (hs : s.size <= 1000000) : Calls Tryz.prog 94 #[.string s, .int .u8 46] w fun e w' => (∃ (p : Option Addr) (c : Nat), e = .returned (.slice p (partsD s).length c) /\ StrP w' p (partsD s)) /\ K0 w w' := by
 refine vc_xparts s 46 w _ ?_
 refine ⟨fun vs w' => ∃ (i a : Nat) (p : Option Addr) (c : Nat) (out : List ByteArray), vs = [.int .i64 (i : Int), .string (s.extract a i), .slice p out.length c] /\ a <= i /\ i <= s.size /\ out.length <= i /\ (∀ j, a <= j -> j < i -> at8 s j ≠ 46) /\ partsD s = out ++ partsD (s.extract a s.size) /\ w'.ownsRow w.heap.size 9 1 (.slice p out.length c) out.length (out.map .string) /\ K0 w w',
  fun vs _ => (match vs with | .int _ x :: _ => s.size - x.toNat | _ => 0), ⟨0, 0, none, 0, [], by rw [ext_nil]; rfl, by omega, by omega, by simp, (fun j h1 h2 => by omega), by simp, ⟨rfl, .inl ⟨rfl, rfl⟩⟩, .refl _ _⟩, ?_⟩
 rintro x y p n c w1 ⟨i, a, p', c', out, hv, hai, hi, hol, hno, hP, ho, k1⟩
 simp only [List.cons.injEq, Value.int.injEq, Value.string.injEq, Value.slice.injEq, true_and, and_true] at hv
 obtain ⟨rfl, rfl, rfl, rfl, rfl⟩ := hv
 have hesz : (s.extract a s.size).size = s.size - a := by rw [ByteArray.size_extract]; omega
 have happ : ∀ (W : World), K0 w1 W -> ∀ (n1 : Nat), W.heap[n1]? = some (.cells #[.string (s.extract a i)] 9 (0, 0)) -> ∃ (base : Nat) (xs : List Value), W.ownsRow base 9 1 (.slice p out.length c) out.length xs /\ out.length + 1 <= 9223372036854775807 /\ (out.length + 1) * 16 <= 140737488355328 /\ base <= W.heap.size /\ base = w.heap.size /\ xs = out.map .string := fun W k n1 _ =>
  ⟨w.heap.size, _, owns_kp ho k (fun _ _ h => h), by omega, by omega, Nat.le_trans k1.size k.size, rfl, rfl⟩
 refine bsp_intro (fun hlt => ?_) (fun hge => ?_)
 ·have hlt : i < s.size := by simp at hlt; omega
  rw [Int.toNat_natCast]
  refine ⟨⟨by omega, by omega⟩, bsp_intro (fun hb => fun n1 W hW => ?_) (fun hb => ?_)⟩
  ·have hb : at8 s i = 46 := by simpa using hb
   have kW : K0 w1 W := hW.kk rfl
   obtain ⟨base, xs, h1, h2, h3, h4, rfl, rfl⟩ := happ W kW n1 (hW.cells 0 rfl)
   refine ⟨_, _, h1, h2, h3, h4, fun p' c' w2 ho2 hg2 _ => ?_⟩
   have k2 : K0 w w2 := (k1.trans kW).fresh (kp_grown hg2) (fun j hj e => by have := own_ge ho e; omega)
   have hfst : FirstC 46 (s.extract a s.size) 0 (i - a) := ⟨Nat.zero_le _, by omega, fun j _ hj => by
    rw [T0.at8_extract s a s.size j (by omega) (Nat.le_refl _)]
    exact hno (a + j) (by omega) (by omega), fun h => by
    rw [T0.at8_extract s a s.size _ (by omega) (Nat.le_refl _), show a + (i - a) = i by omega]
    exact hb⟩
   have hh := partsD_hit hfst (by omega)
   have e1 : (s.extract a s.size).extract 0 (i - a) = s.extract a i := by rw [ByteArray.extract_extract]; congr 1; omega
   have e2 : (s.extract a s.size).extract (i - a + 1) (s.extract a s.size).size = s.extract (i + 1) s.size := by rw [hesz, ByteArray.extract_extract]; congr 1 <;> omega
   rw [e1, e2] at hh
   have el : (out ++ [s.extract a i]).length = out.length + 1 := by simp
   refine ⟨⟨(kp_grown hg2).size, fun _ hx => by cases hx⟩, ⟨i + 1, i + 1, p', c', out ++ [s.extract a i], by rw [inc64 (by omega), ext_nil, el], by omega, hlt, by rw [el]; omega, (fun j h1 h2 => by omega), by rw [hP, hh, List.append_assoc]; rfl, by rw [el, List.map_append]; exact ho2, k2⟩, by rw [inc64 (by omega)]; simp only [Int.toNat_natCast]; omega⟩
  ·have hb : at8 s i ≠ 46 := by simpa using hb
   rw [inc64 (by omega), Int.toNat_natCast]
   have e1 : s.extract a i ++ s.extract i (i + 1) = s.extract a (i + 1) := by
    rw [ByteArray.extract_append_extract]; congr 1 <;> omega
   have z1 : (s.extract a i).size <= s.size := by rw [ByteArray.size_extract]; omega
   have z2 : (s.extract i (i + 1)).size <= s.size := by rw [ByteArray.size_extract]; omega
   rw [e1]
   refine ⟨⟨by omega, by omega, by omega⟩, nneg (by omega), ⟨i + 1, a, p, c, out, rfl, by omega, hlt, by omega, fun j h1 h2 => ?_, hP, ho, k1⟩, by simp only [Int.toNat_natCast]; omega⟩
   by_cases e : j = i
   ·rw [e]; exact hb
   ·exact hno j h1 (by omega)
 ·have hi2 : i = s.size := by simp at hge; omega
  subst hi2
  intro n1 W hW
  have kW : K0 w1 W := hW.kk rfl
  obtain ⟨base, xs, h1, h2, h3, h4, rfl, rfl⟩ := happ W kW n1 (hW.cells 0 rfl)
  refine ⟨_, _, h1, h2, h3, h4, fun p' c' w2 ho2 hg2 _ => ?_⟩
  have k2 : K0 w w2 := (k1.trans kW).fresh (kp_grown hg2) (fun j hj e => by have := own_ge ho e; omega)
  have hh := partsD_miss (s := s.extract a s.size) (i := (s.extract a s.size).size) ⟨Nat.zero_le _, Nat.le_refl _, fun j _ hj => by
   rw [T0.at8_extract s a s.size j (by omega) (Nat.le_refl _)]
   exact hno (a + j) (by omega) (by omega), fun h => by omega⟩ (by omega)
  rw [hh] at hP
  have el : (out ++ [s.extract a s.size]).length = out.length + 1 := by simp
  rw [hP, el]
  refine ⟨⟨(kp_grown hg2).size, fun _ hx => by cases hx⟩, ⟨p', c', rfl, ?_⟩, k2⟩
  have : w2.ownsRow w.heap.size 9 1 (.slice p' (out.length + 1) c') (out.length + 1) ((out ++ [s.extract a s.size]).map .string) := by rw [List.map_append]; exact ho2
  intro k z hk
  obtain ⟨g, hp, hc⟩ := own_cellL this (i := k) (v := .string z) (by rw [List.getElem?_map, hk]; rfl)
  exact ⟨g, 0, hp, by rw [Nat.zero_add]; exact hc⟩
theorem xgcheck_any (s : ByteArray) (w : World) : Calls Tryz.prog 53 #[.string s] w fun e w' => e = .returned (.int .i64 (gnE s)) /\ K0 w w' := by
 refine vc_xgcheck s w _ (bsp_intro (fun h => ?_) (fun h => ?_))
 ·have : gnE s = 5 := by unfold gnE; rw [if_pos (by simp at h; omega)]
  rw [this]; exact ⟨rfl, .refl _ _⟩
 have h80 : ¬ 80 < s.size := by simp at h; omega
 have hle := partsD_le s.size s (Nat.le_refl _)
 unfold gnE
 rw [if_neg h80]
 refine ⟨(xparts_any s w (by omega)).mono fun e w1 ⟨⟨p, c, he, hR⟩, k1⟩ => ⟨_, _, _, he, .of_k0 k1, ?_⟩⟩
 generalize partsD s = l at *
 refine ⟨fun vs w' => ∃ i : Nat, vs = [.int .i64 (i : Int)] /\ i <= l.length /\ (∀ j z, j < i -> l[j]? = some z -> compB z = true) /\ K0 w1 w',
  fun vs _ => (match vs with | .int _ x :: _ => l.length - x.toNat | _ => 0), ⟨0, rfl, by omega, (fun j z h => by omega), .refl _ _⟩, ?_⟩
 rintro x w2 ⟨i, hv, hi, hall, k2⟩
 simp only [List.cons.injEq, Value.int.injEq, true_and, and_true] at hv
 subst hv
 refine bsp_intro (fun hlt => ?_) (fun hge => ?_)
 ·have hlt : i < l.length := by simp at hlt; omega
  obtain ⟨z, b, o, hz, hp, hc⟩ := str_get (hR.k0 k2) hlt
  rw [Int.toNat_natCast]
  refine nn_is hp ⟨⟨by omega, by omega⟩, z, hc, ⟨(xcomp_any z w2).mono fun e w3 ⟨he, k3⟩ => ⟨_, he, .of_k0 k3, bsp_intro (fun hb => ?_) (fun hb => ?_)⟩⟩⟩
  ·have : l.any (fun x => !compB x) = true := List.any_eq_true.2 ⟨z, List.mem_of_getElem? hz, hb⟩
   rw [if_pos this]
   exact ⟨rfl, (k1.trans k2).trans k3⟩
  ·have hb : compB z = true := by simpa using hb
   refine ⟨⟨i + 1, by rw [inc64 (by omega)], hlt, fun j y hj hy => ?_, k2.trans k3⟩, by rw [inc64 (by omega)]; simp only [Int.toNat_natCast]; omega⟩
   by_cases e : j = i
   ·rw [e, hz] at hy; cases hy; exact hb
   ·exact hall j y (by omega) hy
 ·have hi : i = l.length := by simp at hge; omega
  subst hi
  have : ¬ l.any (fun x => !compB x) = true := fun h => by
   obtain ⟨z, hz, e⟩ := List.any_eq_true.1 h
   obtain ⟨j, hj, e2⟩ := List.getElem_of_mem hz
   rw [hall j z hj (by rw [List.getElem?_eq_getElem hj, e2])] at e
   cases e
  rw [if_neg this]
  refine bsp_intro (fun h => ?_) (fun h => ?_)
  ·rw [if_pos (by simp at h; omega)]; exact ⟨rfl, k1.trans k2⟩
  ·rw [if_neg (by simp at h; omega)]; exact ⟨rfl, k1.trans k2⟩
end Go.Proofs.YtfacflbmlfbeeaaGreatDoor
namespace Go.Proofs.YtfacflbmlfbeeaaGreatDoor
set_option maxRecDepth 100000
set_option linter.unusedVariables false
def VC_acont (p : Option Addr) (n : Nat) (c : Nat) (a : Nat -> Int) (w : World) (R : Ending -> World -> Prop) : Prop := ∀ (n_1 : Nat) (W : World), Loc w.heap.size [Blk.mk n_1 45 (arrI .u8 a 16 0) 2] w W -> CallsS Tryz.prog 132 #[.slice p n c, .agg (arrI .u8 a 16 0).toArray] W fun (e : Ending) (w' : World) => ∃ (x : Int), e = .returned (.int .i64 x) /\ KeptL [n_1] W w' /\ R (.returned (.bool (decide (x ≥ 0)))) w'
theorem vc_acont (p : Option Addr) (n : Nat) (c : Nat) (a : Nat -> Int) (w : World) (R : Ending -> World -> Prop) (h : VC_acont p n c a w R) : Calls Tryz.prog 107 ([Value.slice p n c, .agg (arrI .u8 a 16 0).toArray] : List Value).toArray w R :=
 calls_of_exec2' (loops := []) (tails := []) (joins := []) (boxes := []) (rngs := []) (c := Tryz.f107.body.getD .skip) pur1_ok Tryz.func107 (by kernel_rfl) (by kernel_rfl) h
def VC_aidx (p : Option Addr) (n : Nat) (c : Nat) (a : Nat -> Int) (w : World) (R : Ending -> World -> Prop) : Prop := ∀ (n_1 : Nat) (W : World), Loc w.heap.size [Blk.mk n_1 45 (arrI .u8 a 16 0) 2] w W -> ∃ (I : List Value -> World -> Prop) (m : List Value -> World -> Nat), I [Value.int .i64 0] W /\ ∀ (x : Int) (w' : World), I [Value.int .i64 x] w' -> Loc w.heap.size [Blk.mk n_1 45 (arrI .u8 a 16 0) 0] w' w' -> bsp (decide (x < (↑n : Int))) (nn true p fun (b o : Nat) => (0 <= x /\ x < (↑n : Int)) /\ ∃ (f : Nat -> Int), (∀ (W : World), Loc w.heap.size [Blk.mk n_1 45 (arrI .u8 a 16 0) 0] w' W -> AtL W b (o + x.toNat * 16) (arrI .u8 f 16 0)) /\ ∃ (r : Bool), EqP Tryz.prog 45 (.agg (arrI .u8 a 16 0).toArray) (.agg (arrI .u8 f 16 0).toArray) r /\ bsp r (∀ (W : World), Loc w.heap.size [Blk.mk n_1 45 (arrI .u8 a 16 0) 0] w' W -> R (.returned (.int .i64 x)) W) (∀ (W : World), Loc w.heap.size
 [Blk.mk n_1 45 (arrI .u8 a 16 0) 0] w' W -> I [Value.int .i64 (IntKind.i64.wrap (x + 1))] W /\ m [Value.int .i64 (IntKind.i64.wrap (x + 1))] W < m [Value.int .i64 x] w')) (R (.returned (.int .i64 (-1))) w')
theorem vc_aidx (p : Option Addr) (n : Nat) (c : Nat) (a : Nat -> Int) (w : World) (R : Ending -> World -> Prop) (h : VC_aidx p n c a w R) : Calls Tryz.prog 132 ([Value.slice p n c, .agg (arrI .u8 a 16 0).toArray] : List Value).toArray w R :=
 calls_of_exec2' (loops := [(2, [(8, Ck.int .i64)])]) (tails := []) (joins := []) (boxes := []) (rngs := []) (c := Tryz.f132.body.getD .skip) pur1_ok Tryz.func132 (by kernel_rfl) (by kernel_rfl) h
def VC_aclone (p : Option Addr) (n : Nat) (c : Nat) (w : World) (R : Ending -> World -> Prop) : Prop := bsp p.isNone (R (.returned (.slice none 0 0)) w) (∀ (n_1 : Nat) (W : World), Loc w.heap.size [Blk.mk n_1 45 [] 2] w W -> ∃ (base : Nat) (xs : List Value) (news : List Value), W.ownsRow base 45 16 (.slice (some (Addr.mk n_1 0 none)) 0 0) 0 xs /\ news.length = n * 16 /\ SrcP W p news /\ 0 + n <= 9223372036854775807 /\ (0 + n) * 16 <= 140737488355328 /\ base <= W.heap.size /\ ∀ (p' : Option Addr) (c' : Nat) (w' : World), w'.ownsRow base 45 16 (.slice p' (0 + n) c') (0 + n) (xs ++ news) -> W.grownBy w' (Value.slice (some (Addr.mk n_1 0 none)) 0 0).ownBlock -> AppL W (some (Addr.mk n_1 0 none)) 0 0 n p' c' -> KeptL [] W w' /\ R (.returned (.slice p' (0 + n) c')) w')
theorem vc_aclone (p : Option Addr) (n : Nat) (c : Nat) (w : World) (R : Ending -> World -> Prop) (h : VC_aclone p n c w R) : Calls Tryz.prog 47 ([Value.slice p n c] : List Value).toArray w R :=
 calls_of_exec2' (loops := []) (tails := []) (joins := []) (boxes := []) (rngs := []) (c := Tryz.f47.body.getD .skip) pur1_ok Tryz.func47 (by kernel_rfl) (by kernel_rfl) h
def VC_aequal (p : Option Addr) (n : Nat) (c : Nat) (p2 : Option Addr) (n2 : Nat) (c2 : Nat) (w : World) (R : Ending -> World -> Prop) : Prop := bsp ((↑n : Int) != (↑n2 : Int)) (R (.returned (.bool false)) w) (∃ (I : List Value -> World -> Prop) (m : List Value -> World -> Nat), I [Value.int .i64 0] w /\ ∀ (x : Int) (w' : World), I [Value.int .i64 x] w' -> bsp (decide (x < (↑n : Int))) (nn true p fun (b o : Nat) => (0 <= x /\ x < (↑n : Int)) /\ ∃ (f : Nat -> Int), (∀ (W : World), Loc w.heap.size [] w' W -> AtL W b (o + x.toNat * 16) (arrI .u8 f 16 0)) /\ nn true p2 fun (b o : Nat) => (0 <= x /\ x < (↑n2 : Int)) /\ ∃ (f_1 : Nat -> Int), (∀ (W : World), Loc w.heap.size [] w' W -> AtL W b (o + x.toNat * 16) (arrI .u8 f_1 16 0)) /\ ∃ (r : Bool), EqP Tryz.prog 45 (.agg (arrI .u8 f 16 0).toArray) (.agg (arrI .u8 f_1 16 0).toArray) r /\
 bsp (!r) (∀ (W : World), Loc w.heap.size [] w' W -> R (.returned (.bool false)) W) (∀ (W : World), Loc w.heap.size [] w' W -> I [Value.int .i64 (IntKind.i64.wrap (x + 1))] W /\ m [Value.int .i64 (IntKind.i64.wrap (x + 1))] W < m [Value.int .i64 x] w')) (R (.returned (.bool true)) w'))
theorem vc_aequal (p : Option Addr) (n : Nat) (c : Nat) (p2 : Option Addr) (n2 : Nat) (c2 : Nat) (w : World) (R : Ending -> World -> Prop) (h : VC_aequal p n c p2 n2 c2 w R) : Calls Tryz.prog 51 ([Value.slice p n c, .slice p2 n2 c2] : List Value).toArray w R :=
 calls_of_exec2' (loops := [(4, [(13, Ck.int .i64)])]) (tails := []) (joins := []) (boxes := []) (rngs := []) (c := Tryz.f51.body.getD .skip) pur1_ok Tryz.func51 (by kernel_rfl) (by kernel_rfl) h
end Go.Proofs.YtfacflbmlfbeeaaGreatDoor
namespace Go.Proofs.YtfacflbmlfbeeaaGreatDoor
open Go.RowKit
def BY (f : Nat -> Int) : Prop := ∀ j : Nat, 0 <= f j /\ f j <= 255
structure Df.OK (d : Df) : Prop where
 id : BY d.id
 au : BY d.au
 ms : ∀ m ∈ d.ms, BY m
theorem str_eq {a b : ByteArray} (h : a.toList = b.toList) : a = b := by
 rw [ByteArray.toList_eq, ByteArray.toList_eq] at h
 exact ByteArray.ext (Array.toList_inj.1 h)
theorem str_beq (a b : ByteArray) : (a.toList == b.toList) = decide (a = b) := by
 rw [Bool.eq_iff_iff]
 simp only [beq_iff_eq, decide_eq_true_eq]
 exact ⟨str_eq, fun h => by rw [h]⟩
theorem auI_len (f : Nat -> Int) : (auI f).length = 16 := by simp [auI]
theorem auI_bd {f : Nat -> Int} (h : BY f) : ∀ x ∈ auI f, 0 <= x /\ x <= 255 := fun x hx => by
 obtain ⟨j, _, rfl⟩ := List.mem_map.1 hx
 exact h j
theorem auEq {f g : Nat -> Int} (hf : BY f) (hg : BY g) : EqP Tryz.prog 45 (.agg (arrI .u8 f 16 0).toArray) (.agg (arrI .u8 g 16 0).toArray) (decide (auI f = auI g)) :=
 eq_bytes Tryz.underlying45 Tryz.underlying5 (by kernel_rfl) (by kernel_rfl) (by kernel_rfl) (by decide +kernel) (by kernel_rfl) (by kernel_rfl) (auI_len f) (auI_bd hf) (auI_len g) (auI_bd hg)
theorem idEqF {f g : Nat -> Int} (hf : BY f) (hg : BY g) : EqP Tryz.prog 32 (.agg (arrI .u8 f 32 0).toArray) (.agg (arrI .u8 g 32 0).toArray) (decide (idI f = idI g)) :=
 idEq (idI_len f) (idI_bd hf) (idI_len g) (idI_bd hg)
theorem RowA.take {α : Type} {f : α -> List Value} {L : Nat} {w : World} {p : Option Addr} {l : List α} (h : RowA f L w p l) (m : Nat) : RowA f L w p (l.take m) := fun k y hy => by
 rw [List.getElem?_take] at hy
 split at hy
 ·exact h k y hy
 ·cases hy
theorem src_rowA {α : Type} {f : α -> List Value} {L : Nat} {w : World} {p : Option Addr} {l : List α} (h : RowA f L w p l) (hl : ∀ y, (f y).length = L) (h1 : ∀ y, ∀ u ∈ f y, u.oneCell' = true) (h0 : 0 < L) : SrcP w p (l.flatMap f) := by
 refine ⟨fun j u hj => ?_, fun u hu => by obtain ⟨z, _, hz⟩ := List.mem_flatMap.1 hu; exact h1 z u hz⟩
 have hlt := (List.getElem?_eq_some_iff.1 hj).1
 rw [len_flat f L l (fun y _ => hl y)] at hlt
 have hdiv : j / L < l.length := Nat.div_lt_of_lt_mul (by rw [Nat.mul_comm]; exact hlt)
 have hj2 : j / L * L + j % L = j := by rw [Nat.mul_comm]; exact Nat.div_add_mod j L
 obtain ⟨y, b, o, hy, hp, hat⟩ := h.get hdiv
 have h1 := flat_get f L l (j / L) y (j % L) (fun y _ => hl y) hy (Nat.mod_lt _ h0)
 rw [hj2, hj] at h1
 refine ⟨b, o, hp, ?_⟩
 have := hat.cell h1.symm
 rwa [Nat.add_assoc, hj2] at this
theorem arr_one (f : Nat -> Int) (n : Nat) : ∀ u ∈ arrI .u8 f n 0, u.oneCell' = true := fun u hu => by
 obtain ⟨j, hj, e⟩ := List.getElem_of_mem hu
 have hl : ∀ (n i : Nat), (arrI .u8 f n i).length = n := fun n => by
  induction n with
  | zero => intro i; rfl
  | succ n ih => intro i; simp [arrI, ih]
 have hj' : j < n := by rw [hl] at hj; exact hj
 have := arrI_get .u8 f n 0 j hj'
 rw [List.getElem?_eq_getElem hj] at this
 simp at this
 rw [<- e, this]; rfl
theorem rowA_none {α : Type} {f : α -> List Value} {L : Nat} {w : World} {l : List α} (h : RowA f L w none l) : l = [] := by
 cases l with
 | nil => rfl
 | cons x r => obtain ⟨_, _, h, _⟩ := h 0 x rfl; cases h
theorem aidx_any (l : List (Nat -> Int)) (p : Option Addr) (c : Nat) (a : Nat -> Int) (w : World) (hR : RowA auC 16 w p l) (hm : ∀ m ∈ l, BY m) (ha : BY a) (hl : l.length <= 4611686018427387904) :
  Calls Tryz.prog 132 #[.slice p l.length c, .agg (arrI .u8 a 16 0).toArray] w fun e w' => (∃ x : Int, e = .returned (.int .i64 x) /\ decide (x ≥ 0) = decide (auI a ∈ l.map auI)) /\ K0 w w' := by
 refine vc_aidx p l.length c a w _ (fun n1 W hW => ?_)
 have kW : K0 w W := hW.kk rfl
 refine ⟨fun vs w' => ∃ i : Nat, vs = [.int .i64 (i : Int)] /\ i <= l.length /\ (∀ (j : Nat) (z : Nat -> Int), j < i -> l[j]? = some z -> auI a ≠ auI z) /\ K0 w w',
  fun vs _ => (match vs with | .int _ x :: _ => l.length - x.toNat | _ => 0), ⟨0, rfl, by omega, (fun j z h => by omega), kW⟩, ?_⟩
 rintro x w1 ⟨i, hv, hi, hall, k1⟩ _
 simp only [List.cons.injEq, Value.int.injEq, true_and, and_true] at hv
 subst hv
 refine bsp_intro (fun hlt => ?_) (fun hge => ?_)
 ·have hlt : i < l.length := by simp at hlt; omega
  obtain ⟨z, b, o, hz, hp, hat⟩ := (hR.k0 k1).get hlt
  rw [Int.toNat_natCast]
  refine nn_is hp ⟨⟨by omega, by omega⟩, z, fun W hW => hat.k0 (hW.kk rfl), _, auEq ha (hm z (List.mem_of_getElem? hz)), bsp_intro (fun h => fun W hW => ?_) (fun h => fun W hW => ?_)⟩
  ·have h : auI a = auI z := of_decide_eq_true h
   have : auI a ∈ l.map auI := List.mem_map.2 ⟨z, List.mem_of_getElem? hz, h.symm⟩
   exact ⟨⟨i, rfl, by rw [decide_eq_true this]; simp⟩, k1.trans (hW.kk rfl)⟩
  ·have h : ¬ auI a = auI z := of_decide_eq_false h
   refine ⟨⟨i + 1, by rw [inc64 (by omega)], hlt, fun j y hj hy => ?_, k1.trans (hW.kk rfl)⟩, by rw [inc64 (by omega)]; simp only [Int.toNat_natCast]; omega⟩
   by_cases e : j = i
   ·rw [e, hz] at hy; cases hy; exact h
   ·exact hall j y (by omega) hy
 ·have hi : i = l.length := by simp at hge; omega
  subst hi
  have : ¬ auI a ∈ l.map auI := fun hm => by
   obtain ⟨z, hz, e⟩ := List.mem_map.1 hm
   obtain ⟨j, hj, e2⟩ := List.getElem_of_mem hz
   exact hall j z hj (by rw [List.getElem?_eq_getElem hj, e2]) e.symm
  exact ⟨⟨-1, rfl, by rw [decide_eq_false this]; rfl⟩, k1⟩
theorem acont_any (l : List (Nat -> Int)) (p : Option Addr) (c : Nat) (a : Nat -> Int) (w : World) (hR : RowA auC 16 w p l) (hm : ∀ m ∈ l, BY m) (ha : BY a) (hl : l.length <= 4611686018427387904) :
  Calls Tryz.prog 107 #[.slice p l.length c, .agg (arrI .u8 a 16 0).toArray] w fun e w' => e = .returned (.bool (decide (auI a ∈ l.map auI))) /\ K0 w w' := by
 refine vc_acont p l.length c a w _ (fun n1 W hW => ?_)
 have kW : K0 w W := hW.kk rfl
 exact ⟨(aidx_any l p c a W (hR.k0 kW) hm ha hl).mono fun e w1 ⟨⟨x, he, hx⟩, k1⟩ => ⟨_, he, .of_k0 k1, by rw [hx], kW.trans k1⟩⟩
theorem aclone_any (l : List (Nat -> Int)) (p : Option Addr) (c : Nat) (w : World) (hR : RowA auC 16 w p l) (hl : l.length * 16 <= 140737488355328) :
  Calls Tryz.prog 47 #[.slice p l.length c] w fun e w' => (∃ (p' : Option Addr) (c' : Nat), e = .returned (.slice p' l.length c') /\ w'.ownsRow w.heap.size 45 16 (.slice p' l.length c') l.length (l.flatMap auC)) /\ K0 w w' := by
 refine vc_aclone p l.length c w _ (bsp_intro (fun h => ?_) (fun h => fun n1 W hW => ?_))
 ·obtain rfl : p = none := by simpa using h
  have := rowA_none hR
  subst this
  exact ⟨⟨none, 0, rfl, World.ownsRow_nil _ _ _ _⟩, .refl _ _⟩
 have kW : K0 w W := hW.kk rfl
 have g1 : w.heap.size <= n1 := hW.fresh 0 rfl rfl
 have h0 := hW.cells 0 rfl
 refine ⟨w.heap.size, [], l.flatMap auC, own_none g1 h0, by rw [len_flat auC 16 l (fun y _ => auC_length y)], src_rowA (hR.k0 kW) auC_length (fun y => arr_one y 16) (by decide), by omega, by omega, kW.size, fun p' c' w' ho hg _ => ?_⟩
 rw [Nat.zero_add] at ho
 rw [Nat.zero_add]
 refine ⟨⟨(kp_grown hg).size, fun _ hx => by cases hx⟩, ⟨p', c', rfl, by simpa using ho⟩, kW.fresh (kp_grown hg) (fun j hj e => by simp only [Value.ownBlock, Option.some.injEq] at e; omega)⟩
theorem aequal_any (a b : List (Nat -> Int)) (p : Option Addr) (c : Nat) (q : Option Addr) (d : Nat) (w : World) (hp : RowA auC 16 w p a) (hq : RowA auC 16 w q b) (ha : ∀ m ∈ a, BY m) (hb : ∀ m ∈ b, BY m) (hl : a.length <= 1099511627776) :
  Calls Tryz.prog 51 #[.slice p a.length c, .slice q b.length d] w fun e w' => e = .returned (.bool (decide (a.map auI = b.map auI))) /\ K0 w w' := by
 refine vc_aequal p a.length c q b.length d w _ (bsp_intro (fun h => ?_) (fun h => ?_))
 ·have : ¬ a.map auI = b.map auI := fun e => by
   have := congrArg List.length e
   simp only [List.length_map] at this
   rw [this] at h; simp at h
  rw [decide_eq_false this]; exact ⟨rfl, .refl _ _⟩
 have hn : a.length = b.length := by simp at h; omega
 refine ⟨fun vs w' => ∃ i : Nat, vs = [.int .i64 (i : Int)] /\ i <= a.length /\ (a.take i).map auI = (b.take i).map auI /\ K0 w w',
  fun vs _ => (match vs with | .int _ x :: _ => a.length - x.toNat | _ => 0), ⟨0, rfl, by omega, by simp, .refl _ _⟩, ?_⟩
 rintro x w1 ⟨i, hv, hi, ht, k1⟩
 simp only [List.cons.injEq, Value.int.injEq, true_and, and_true] at hv
 subst hv
 refine bsp_intro (fun hlt => ?_) (fun hge => ?_)
 ·have hlt : i < a.length := by simp at hlt; omega
  obtain ⟨z, b1, o1, hz, hp1, hc1⟩ := (hp.k0 k1).get hlt
  obtain ⟨y, b2, o2, hy, hp2, hc2⟩ := (hq.k0 k1).get (k := i) (by omega)
  rw [Int.toNat_natCast]
  refine nn_is hp1 ⟨⟨by omega, by omega⟩, z, fun W hW => hc1.k0 (hW.kk rfl), nn_is hp2 ⟨⟨by omega, by omega⟩, y, fun W hW => hc2.k0 (hW.kk rfl), _, auEq (ha z (List.mem_of_getElem? hz)) (hb y (List.mem_of_getElem? hy)), bsp_intro (fun hne => fun W hW => ?_) (fun heq => fun W hW => ?_)⟩⟩
  ·have hne : ¬ auI z = auI y := by simpa using hne
   have : ¬ a.map auI = b.map auI := fun e => by
    have := congrArg (·[i]?) e
    simp only [List.getElem?_map, hz, hy, Option.map_some, Option.some.injEq] at this
    exact hne this
   rw [decide_eq_false this]; exact ⟨rfl, k1.trans (hW.kk rfl)⟩
  ·have e : auI z = auI y := by simpa using heq
   refine ⟨⟨i + 1, by rw [inc64 (by omega)], hlt, ?_, k1.trans (hW.kk rfl)⟩, by rw [inc64 (by omega)]; simp only [Int.toNat_natCast]; omega⟩
   rw [take_snoc hz, take_snoc hy, List.map_append, List.map_append, ht]
   simp [e]
 ·have hi : i = a.length := by simp at hge; omega
  subst hi
  rw [List.take_length, List.take_of_length_le (by omega)] at ht
  rw [decide_eq_true ht]; exact ⟨rfl, k1⟩
end Go.Proofs.YtfacflbmlfbeeaaGreatDoor
