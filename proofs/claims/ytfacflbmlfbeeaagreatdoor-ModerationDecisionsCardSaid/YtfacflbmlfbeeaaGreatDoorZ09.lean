/- Chapter 39: the contracts of the reference's end, release, claim. Bytes are bytes; lists are not too long. -/
import Derived.Test.YtfacflbmlfbeeaaGreatDoorZ08
import Derived.Test.YtfacflbmlfbeeaaGreatDoorZ07
import Derived.Test.YtfacflbmlfbeeaaGreatDoorZ06
namespace Go.Proofs.YtfacflbmlfbeeaaGreatDoor
open Go.RowKit Go.Sort Go.Maps

theorem nn_neg {g : Bool} {p : Option Addr} {K : Nat → Nat → Prop} (hg : g = false) (h : ∀ b o, K b o) : nn g p K := by subst hg; exact nn_off h
theorem gimp_neg {g : Bool} {X : Prop} (hg : g = false) : gimp g X := gimp_intro (fun h => by rw [hg] at h; cases h)
theorem RowA.ty {w w' : World} {N : Nat → Prop} {p : Option Addr} {l : List (Nat → Int)} (h : RowA auC 16 w p l) (ht : TyA w p) (hk : Kp N w w') (hm : ∀ k c f, w.heap[k]? = some (.cells c 45 f) → ¬ N k) : RowA auC 16 w' p l := fun k y hy => by
  obtain ⟨b, o, h1, h2⟩ := h k y hy
  obtain ⟨c, f, hc⟩ := ht b o h1
  exact ⟨b, o, h1, ⟨At_of _ _ fun j u hu => hk.cell' (h2.cell hu) (hm b c f hc)⟩⟩
section
variable {w w1 : World} {B m : Nat} {M : Mo} {P : Pl}
/-- Blocks of other types are written. -/
theorem MoR.off (h : MoR w B m M P) {N : Nat → Prop} {t : TypeId} (hk : Kp N w w1) (hN : ∀ k, N k → ∃ c f, w.heap[k]? = some (.cells c t f)) (ht : (t == 57 || t == 93 || t == 91 || t == 45) = false) : MoR w1 B m M P := by
  have no : ∀ {k : Nat} {c : Array Value} {t' : TypeId} {f : Nat × Nat}, w.heap[k]? = some (.cells c t' f) → (t == t') = false → ¬ N k := fun hc hne hn => by
    obtain ⟨c', f', hc'⟩ := hN _ hn
    rw [hc] at hc'
    cases hc'
    simp at hne
  have tf : (t == 57) = false ∧ (t == 93) = false ∧ (t == 91) = false ∧ (t == 45) = false := by
    simp only [Bool.or_eq_false_iff] at ht
    exact ⟨ht.1.1.1, ht.1.1.2, ht.1.2, ht.2⟩
  refine ⟨hk.blk h.st (no h.st tf.1), h.ge, owns_kp h.gw hk (fun k hk' => ?_), owns_kp h.ew hk (fun k hk' => ?_), fun y hy => ⟨(h.ms y hy).1.ty (h.ms y hy).2 hk (fun k c f hc => no hc tf.2.2.2), (h.ms y hy).2.kp hk (fun k c f hc => no hc tf.2.2.2)⟩⟩
  · obtain ⟨c, hc⟩ := own_type h.gw hk'
    exact no hc tf.2.1
  · obtain ⟨c, hc⟩ := own_type h.ew hk'
    exact no hc tf.2.2.1
/-- A part of an entry is written. -/
theorem MoR.part (h : MoR w B m M P) {i g j : Nat} {y y' : En} {vs : List Value} (hy : M.es[i]? = some y) (hp : P.ep = some ⟨g, 0, none⟩) (hj : j + vs.length ≤ 72) (hyy : enC y' = putL (enC y) j vs) (hput : PutB w g (0 + i * 72 + j) vs w1) :
    MoR w1 B m { M with es := M.es.set i y' } P ∧ Kp (MF w B) w w1 := by
  have hg : (Value.slice P.ep M.es.length P.ec).ownBlock = some g := by rw [hp]; rfl
  have hmf : Kp (MF w B) w w1 := hput.kp.mono fun k _ e => by have e : k = g := e; rw [e]; exact h.mfe hg
  obtain ⟨gc, hgc⟩ := own_type h.ew hg
  have hew := h.ew
  rw [hp] at hew
  have h2 := own_part (f := enC) (y := y) (y' := y') hew rfl enC_length (by decide) hy hj hyy hput
  have hl : (M.es.set i y').length = M.es.length := List.length_set
  refine ⟨⟨?_, h.ge, ?_, ?_, fun z hz => ⟨(h.ms z hz).1.mf (h.ms z hz).2 hmf, (h.ms z hz).2.mf hmf⟩⟩, hmf⟩
  · rw [hl]
    exact hput.blk h.st (fun e => by have h3 := h.st; rw [e, hgc] at h3; cases h3)
  · exact owns_kp h.gw hput.kp (fun k hk e => by
      have e : k = g := e
      subst e
      exact own_not h.gw hgc (by decide) hk)
  · rw [hl, hp]; exact h2
/-- An entry is written. -/
theorem MoR.sete (h : MoR w B m M P) {i g : Nat} {y' : En} (hi : i < M.es.length) (hp : P.ep = some ⟨g, 0, none⟩) (hput : PutB w g (0 + i * 72) (enC y') w1) :
    MoR w1 B m { M with es := M.es.set i y' } P ∧ Kp (MF w B) w w1 := by
  have hg : (Value.slice P.ep M.es.length P.ec).ownBlock = some g := by rw [hp]; rfl
  have hmf : Kp (MF w B) w w1 := hput.kp.mono fun k _ e => by have e : k = g := e; rw [e]; exact h.mfe hg
  obtain ⟨gc, hgc⟩ := own_type h.ew hg
  have hew := h.ew
  rw [hp] at hew
  have h2 := own_set (f := enC) (y := y') hew rfl enC_length (by decide) hi hput
  have hl : (M.es.set i y').length = M.es.length := List.length_set
  refine ⟨⟨?_, h.ge, ?_, ?_, fun z hz => ⟨(h.ms z hz).1.mf (h.ms z hz).2 hmf, (h.ms z hz).2.mf hmf⟩⟩, hmf⟩
  · rw [hl]
    exact hput.blk h.st (fun e => by have h3 := h.st; rw [e, hgc] at h3; cases h3)
  · exact owns_kp h.gw hput.kp (fun k hk e => by
      have e : k = g := e
      subst e
      exact own_not h.gw hgc (by decide) hk)
  · rw [hl, hp]; exact h2
/-- The entries lie in another row. -/
theorem MoR.newe (h : MoR w B m M P) {L : List En} {p : Option Addr} {c : Nat} (ho : w.ownsRow B 91 72 (.slice p L.length c) L.length (L.flatMap enC)) (hput : PutB w m (0 + 3) [.slice p L.length c] w1) :
    MoR w1 B m { M with es := L } ⟨P.gp, P.gc, p, c⟩ ∧ Kp (MF w B) w w1 := by
  have hmf : Kp (MF w B) w w1 := hput.kp.mono fun k _ e => by have e : k = m := e; rw [e]; exact h.mfm
  refine ⟨⟨hput.block h.st, h.ge, ?_, ?_, fun z hz => ⟨(h.ms z hz).1.mf (h.ms z hz).2 hmf, (h.ms z hz).2.mf hmf⟩⟩, hmf⟩
  · exact owns_kp h.gw hput.kp (fun k hk e => by
      have e : k = m := e
      subst e
      exact own_not h.gw h.st (by decide) hk)
  · exact owns_kp ho hput.kp (fun k hk e => by
      have e : k = m := e
      subst e
      exact own_not ho h.st (by decide) hk)
end
theorem put_leE (y : En) (v : Bool) : enC { y with le := v } = putL (enC y) 54 [.bool v] := by
  have e1 : enC y = (arrI .u8 y.s.id 32 0 ++ (([.string y.s.g, .string y.s.tx, .int .i64 y.s.r, .int .i64 y.s.st] : List Value) ++ (arrI .u8 y.s.mo 16 0 ++ ([.int .i64 y.s.de, .string y.s.rs] : List Value)))) ++ (([.bool y.le] : List Value) ++ (arrI .u8 y.ho 16 0 ++ ([.int .i64 y.si] : List Value))) := by
    unfold enC
    simp only [List.append_assoc, List.cons_append, List.nil_append]
  have e2 := putL_mid [.bool v] (arrI .u8 y.s.id 32 0 ++ (([.string y.s.g, .string y.s.tx, .int .i64 y.s.r, .int .i64 y.s.st] : List Value) ++ (arrI .u8 y.s.mo 16 0 ++ ([.int .i64 y.s.de, .string y.s.rs] : List Value)))) [.bool y.le] (arrI .u8 y.ho 16 0 ++ ([.int .i64 y.si] : List Value)) rfl
  rw [e1, show 54 = (arrI .u8 y.s.id 32 0 ++ (([.string y.s.g, .string y.s.tx, .int .i64 y.s.r, .int .i64 y.s.st] : List Value) ++ (arrI .u8 y.s.mo 16 0 ++ ([.int .i64 y.s.de, .string y.s.rs] : List Value)))).length from rfl, e2]
  unfold enC
  simp only [List.append_assoc, List.cons_append, List.nil_append]
theorem put_ho (y : En) (a : Nat → Int) : enC { y with ho := a } = putL (enC y) 55 (arrI .u8 a 16 0) := by
  have e1 : enC y = (arrI .u8 y.s.id 32 0 ++ (([.string y.s.g, .string y.s.tx, .int .i64 y.s.r, .int .i64 y.s.st] : List Value) ++ (arrI .u8 y.s.mo 16 0 ++ ([.int .i64 y.s.de, .string y.s.rs, .bool y.le] : List Value)))) ++ (arrI .u8 y.ho 16 0 ++ ([.int .i64 y.si] : List Value)) := by
    unfold enC
    simp only [List.append_assoc, List.cons_append, List.nil_append]
  have e2 := putL_mid (arrI .u8 a 16 0) (arrI .u8 y.s.id 32 0 ++ (([.string y.s.g, .string y.s.tx, .int .i64 y.s.r, .int .i64 y.s.st] : List Value) ++ (arrI .u8 y.s.mo 16 0 ++ ([.int .i64 y.s.de, .string y.s.rs, .bool y.le] : List Value)))) (arrI .u8 y.ho 16 0) ([.int .i64 y.si] : List Value) rfl
  rw [e1, show 55 = (arrI .u8 y.s.id 32 0 ++ (([.string y.s.g, .string y.s.tx, .int .i64 y.s.r, .int .i64 y.s.st] : List Value) ++ (arrI .u8 y.s.mo 16 0 ++ ([.int .i64 y.s.de, .string y.s.rs, .bool y.le] : List Value)))).length from rfl, e2]
  unfold enC
  simp only [List.append_assoc, List.cons_append, List.nil_append]
theorem put_si (y : En) (v : Int) : enC { y with si := v } = putL (enC y) 71 [.int .i64 v] := by
  have e1 : enC y = (arrI .u8 y.s.id 32 0 ++ (([.string y.s.g, .string y.s.tx, .int .i64 y.s.r, .int .i64 y.s.st] : List Value) ++ (arrI .u8 y.s.mo 16 0 ++ (([.int .i64 y.s.de, .string y.s.rs, .bool y.le] : List Value) ++ arrI .u8 y.ho 16 0)))) ++ (([.int .i64 y.si] : List Value) ++ ([] : List Value)) := by
    unfold enC
    simp only [List.append_assoc, List.cons_append, List.nil_append]
  have e2 := putL_mid [.int .i64 v] (arrI .u8 y.s.id 32 0 ++ (([.string y.s.g, .string y.s.tx, .int .i64 y.s.r, .int .i64 y.s.st] : List Value) ++ (arrI .u8 y.s.mo 16 0 ++ (([.int .i64 y.s.de, .string y.s.rs, .bool y.le] : List Value) ++ arrI .u8 y.ho 16 0)))) [.int .i64 y.si] ([] : List Value) rfl
  rw [e1, show 71 = (arrI .u8 y.s.id 32 0 ++ (([.string y.s.g, .string y.s.tx, .int .i64 y.s.r, .int .i64 y.s.st] : List Value) ++ (arrI .u8 y.s.mo 16 0 ++ (([.int .i64 y.s.de, .string y.s.rs, .bool y.le] : List Value) ++ arrI .u8 y.ho 16 0)))).length from rfl, e2]
  unfold enC
  simp only [List.append_assoc, List.cons_append, List.nil_append]
/-- The three parts of a lease are written. -/
theorem MoR.lease {w w1 w2 w3 : World} {B m : Nat} {M : Mo} {P : Pl} (h : MoR w B m M P) {i g : Nat} {y : En} {v : Bool} {a : Nat → Int} {si : Int} (hy : M.es[i]? = some y) (hp : P.ep = some ⟨g, 0, none⟩)
    (p1 : PutB w g (0 + i * 72 + 54) [.bool v] w1) (p2 : PutB w1 g (0 + i * 72 + 55) (arrI .u8 a 16 0) w2) (p3 : PutB w2 g (0 + i * 72 + 71) [.int .i64 si] w3) :
    MoR w3 B m { M with es := M.es.set i ⟨y.s, v, a, si⟩ } P ∧ Kp (MF w B) w w3 := by
  have hi : i < M.es.length := (List.getElem?_eq_some_iff.1 hy).1
  obtain ⟨h1, k1⟩ := h.part hy hp (by show 54 + 1 ≤ 72; omega) (put_leE y v) p1
  obtain ⟨h2, k2⟩ := h1.part (y := { y with le := v }) (by show (M.es.set i _)[i]? = _; rw [List.getElem?_set]; simp [hi]) hp (by show 55 + 16 ≤ 72; omega) (put_ho { y with le := v } a) p2
  obtain ⟨h3, k3⟩ := h2.part (y := { y with le := v, ho := a }) (by show ((M.es.set i _).set i _)[i]? = _; rw [List.getElem?_set]; simp [hi]) hp (by show 71 + 1 ≤ 72; omega) (put_si { y with le := v, ho := a } si) p3
  have e : ((M.es.set i { y with le := v }).set i { y with le := v, ho := a }).set i { y with le := v, ho := a, si := si } = M.es.set i ⟨y.s, v, a, si⟩ := by rw [List.set_set, List.set_set]
  refine ⟨?_, (k1.mft k2).mft k3⟩
  have h3 : MoR w3 B m { M with es := ((M.es.set i { y with le := v }).set i { y with le := v, ho := a }).set i { y with le := v, ho := a, si := si } } P := h3
  rw [e] at h3
  exact h3
set_option maxHeartbeats 2000000 in
set_option maxRecDepth 100000 in
theorem xend_any {w : World} {B m : Nat} {M : Mo} {P : Pl} (h : MoR w B m M P) {i : Nat} {y : En} (hy : M.es[i]? = some y) (st : Int) (a : Nat → Int) (rs : ByteArray) (now : Int) :
    Calls Tryz.prog 61 #[.pointer (some ⟨m, 0, none⟩), .int .i64 (i : Int), .int .i64 st, .agg (arrI .u8 a 16 0).toArray, .string rs, .int .i64 now] w fun e w' => e = .returned (.tuple #[]) ∧ MoR w' B m { M with es := M.es.set i (plainE (finS39 y.s a now st rs)) } P ∧ Kp (MF w B) w w' := by
  have hi : i < M.es.length := (List.getElem?_eq_some_iff.1 hy).1
  refine vc_xend m i st a rs now w _ (fun n => ⟨_, _, _, fun W hW => (h.k0 (hW.kk rfl)).cE, ?_⟩)
  obtain ⟨y2, b, o, hy2, hp, hat⟩ := h.rowE.get hi
  rw [hy] at hy2
  cases hy2
  obtain ⟨g, hg, _⟩ := own_wr h.ew hi
  rw [hp] at hg
  simp only [Option.some.injEq, Addr.mk.injEq, and_true] at hg
  obtain ⟨rfl, rfl⟩ := hg
  have hats : AtL w b (0 + i * 72) (sbC y.s) := by
    have e : enC y = sbC y.s ++ (([.bool y.le] : List Value) ++ (arrI .u8 y.ho 16 0 ++ ([.int .i64 y.si] : List Value))) := by
      unfold enC sbC
      simp only [List.append_assoc, List.cons_append, List.nil_append]
    rw [e] at hat
    exact hat.left
  clear hat
  rw [Int.toNat_natCast]
  refine nn_is hp ⟨⟨by omega, by omega⟩, y.s.id, y.s.g, y.s.tx, y.s.r, y.s.st, y.s.mo, y.s.de, y.s.rs, fun W hW => hats.k0 (hW.kk rfl), fun n2 W hW => ?_⟩
  have kW : K0 w W := hW.kk rfl
  have c0 := hW.cells 0 rfl
  have c1 := hW.cells 1 rfl
  have g0 : w.heap.size ≤ n2 := hW.fresh 0 rfl rfl
  have a10 := hW.apart 1 0 rfl rfl (by decide)
  simp only at a10
  refine ⟨fun wx => Kp (· = n2) W wx, .refl _ _, a, fun wx k => AtL_block (k.blk c1 (fun e => a10 e)) rfl, ⟨⟨_, cell_at c0 rfl⟩, frozen_block c0 _⟩, fun w1 p1 => ⟨p1.kp, ?_⟩⟩
  have d1 : w1.heap[n2]? = some (.cells (sbC { y.s with st := st }).toArray 48 (0, 0)) := p1.block c0
  refine ⟨WrL_block d1 (by show 0 + 36 + 16 ≤ 54; omega), fun w2 p2 => ?_⟩
  have d2 : w2.heap[n2]? = some (.cells (sbC { y.s with st := st, mo := a }).toArray 48 (0, 0)) := put_mo d1 p2
  refine ⟨⟨⟨_, cell_at d2 rfl⟩, frozen_block d2 _⟩, fun w3 p3 => ?_⟩
  have d3 : w3.heap[n2]? = some (.cells (sbC { y.s with st := st, mo := a, de := now }).toArray 48 (0, 0)) := p3.block d2
  refine ⟨⟨⟨_, cell_at d3 rfl⟩, frozen_block d3 _⟩, fun w4 p4 => ?_⟩
  have d4 : w4.heap[n2]? = some (.cells (sbC (finS39 y.s a now st rs)).toArray 48 (0, 0)) := p4.block d3
  have k4 : Kp (· = n2) W w4 := ((p1.kp.trans p2.kp).trans p3.kp).trans p4.kp
  have k04 : K0 w w4 := kW.fresh k4 (fun i hi e => by omega)
  have h4 := h.k0 k04
  generalize finS39 y.s a now st rs = X at d4 ⊢
  refine ⟨.of_kp k4 (fun z hz => ?_), _, _, _, fun W5 hW5 => (h4.k0 (hW5.kk rfl)).cE, X.id, X.g, X.tx, X.r, X.st, X.mo, X.de, X.rs, fun W5 hW5 => AtL_block ((hW5.kk rfl : K0 w4 W5).blk d4 (fun h => h)) rfl, nn_is hp ⟨⟨by omega, by omega⟩, fun W5 hW5 => ?_⟩⟩
  · simp only [List.mem_cons, List.not_mem_nil, or_false] at hz
    rcases hz with rfl
    exact a10
  have k5 : K0 w4 W5 := hW5.kk rfl
  have h5 := h4.k0 k5
  have e0 := hW5.cells 0 rfl
  obtain ⟨g', hg', hwr⟩ := own_wr h5.ew hi
  rw [hp] at hg'
  simp only [Option.some.injEq, Addr.mk.injEq, and_true] at hg'
  subst hg'
  refine ⟨hwr, fun w6 p6 => ?_⟩
  obtain ⟨h6, k6⟩ := h5.sete (y' := plainE X) hi hp p6
  refine ⟨.of_kp p6.kp (fun z hz e => ?_), rfl, h6, (Kp.mf0 (k04.trans k5)).mft k6⟩
  simp only [List.mem_cons, List.not_mem_nil, or_false] at hz
  subst hz
  obtain ⟨cc, hcc⟩ := own_type h5.ew (k := b) (by rw [hp]; rfl)
  exact blk_ne e0 hcc rfl e

end Go.Proofs.YtfacflbmlfbeeaaGreatDoor

/- Chapter 39: the contracts of the reference's release, claim. Bytes are bytes; lists are not too long. -/
namespace Go.Proofs.YtfacflbmlfbeeaaGreatDoor
open Go.RowKit Go.Sort Go.Maps

/-! ### The reference's queue, plain -/
def Mo.fd (M : Mo) (k : Ky) : Option En := M.es.find? fun y => decide (y.s.ky = k)
def Mo.up (M : Mo) (k : Ky) (f : En → En) : Mo := { M with es := M.es.map fun y => if y.s.ky = k then f y else y }
/-- Keys of entries differ. -/
def DisK (es : List En) : Prop := es.Pairwise fun x y => x.s.ky ≠ y.s.ky
theorem dis_fd : ∀ {es : List En} {i : Nat} {y : En} {k : Ky}, DisK es → es[i]? = some y → y.s.ky = k → es.find? (fun y => decide (y.s.ky = k)) = some y
  | [], i, y, k, _, h, _ => by simp at h
  | a :: es, 0, y, k, hd, h, hk => by
    simp only [List.getElem?_cons_zero, Option.some.injEq] at h
    subst h
    rw [List.find?_cons, hk]; simp
  | a :: es, i + 1, y, k, hd, h, hk => by
    have h : es[i]? = some y := by simpa using h
    have hd' := List.pairwise_cons.1 hd
    have hne : a.s.ky ≠ k := by rw [← hk]; exact hd'.1 y (List.mem_of_getElem? h)
    rw [List.find?_cons, show decide (a.s.ky = k) = false from decide_eq_false hne]
    exact dis_fd hd'.2 h hk
theorem dis_map_id : ∀ {es : List En} {k : Ky} (f : En → En), (∀ y ∈ es, y.s.ky ≠ k) → (es.map fun y => if y.s.ky = k then f y else y) = es
  | [], k, f, _ => rfl
  | a :: es, k, f, h => by
    rw [List.map_cons, if_neg (h a (by simp)), dis_map_id f (fun y hy => h y (by simp [hy]))]
theorem dis_set : ∀ {es : List En} {i : Nat} {y : En} {k : Ky} (f : En → En), DisK es → es[i]? = some y → y.s.ky = k → es.set i (f y) = es.map fun y => if y.s.ky = k then f y else y
  | [], i, y, k, f, _, h, _ => by simp at h
  | a :: es, 0, y, k, f, hd, h, hk => by
    simp only [List.getElem?_cons_zero, Option.some.injEq] at h
    subst h
    have hd' := List.pairwise_cons.1 hd
    rw [List.set_cons_zero, List.map_cons, if_pos hk, dis_map_id f (fun y hy => by rw [← hk]; exact fun e => hd'.1 y hy e.symm)]
  | a :: es, i + 1, y, k, f, hd, h, hk => by
    have h : es[i]? = some y := by simpa using h
    have hd' := List.pairwise_cons.1 hd
    have hne : a.s.ky ≠ k := by rw [← hk]; exact hd'.1 y (List.mem_of_getElem? h)
    rw [List.set_cons_succ, List.map_cons, if_neg hne, dis_set f hd'.2 h hk]
theorem no_fd {es : List En} {k : Ky} (h : ∀ y ∈ es, y.s.ky ≠ k) : es.find? (fun y => decide (y.s.ky = k)) = none := by
  rw [List.find?_eq_none]
  intro y hy
  simpa using h y hy
/-- The reference's queue is as it should be. -/
structure Mo.OK (M : Mo) : Prop where
  days : 1 ≤ M.days ∧ M.days ≤ 365
  el : M.es.length ≤ 100000
  gl : M.gs.length ≤ 100000
  es : ∀ y ∈ M.es, y.OK ∧ y.s.g.size ≤ 1000
  dis : DisK M.es
  gs : ∀ y ∈ M.gs, (∀ z ∈ y.x.l, BY z ∧ NZ 16 z) ∧ y.x.l.length ≤ 8
theorem Mo.OK.md {M : Mo} (h : M.OK) (g : ByteArray) : (∀ z ∈ (M.md g).l, BY z) ∧ (M.md g).l.length ≤ 1000000 := by
  unfold Mo.md
  cases hf : M.gs.find? fun y => decide (y.g = g) with
  | none => exact ⟨(fun z hz => by cases hz), by decide⟩
  | some y =>
    have := h.gs y (List.mem_of_find?_eq_some hf)
    exact ⟨fun z hz => (this.1 z hz).1, by show y.x.l.length ≤ _; omega⟩
theorem hdW_blk (x : En) (a : Nat → Int) (now : Int) (h : x.s.st = 0) : (hdW x now && !decide (auI (hdA x now) = auI a)) = blk x (auI a) now := by
  unfold blk hdA hdW
  have e : (x.s.st == 0) = true := by simp [h]
  rw [e, Bool.true_and]
  cases inE x now <;> simp
theorem hdA_by {x : En} (h : x.OK) (now : Int) : BY (hdA x now) := by
  unfold hdA
  split
  · exact h.ho
  · exact by0

/-! ### release -/
def xrlE (M : Mo) (k : Ky) (a : Nat → Int) (now : Int) : Int := if minB now = false then 2 else match M.fd k with
  | none => 8
  | some y => if y.s.st ≠ 0 then 8 else if inE y now = false ∨ auI y.ho ≠ auI a then 10 else 0
def xrlM (M : Mo) (k : Ky) (a : Nat → Int) (now : Int) : Mo := if xrlE M k a now = 0 then M.up k (fun y => plainE y.s) else M
theorem minB_ft {now : Int} (h : (!minB now) = true) : minB now = false := by simpa using h
theorem minB_ff {now : Int} (h : (!minB now) = false) : minB now = true := by simpa using h
set_option maxHeartbeats 2000000 in
set_option maxRecDepth 100000 in
theorem xrelease_any {w : World} {B m : Nat} {M : Mo} {P : Pl} (h : MoR w B m M P) (ho : M.OK) (f : Nat → Int) (hf : BY f) (g : ByteArray) (a : Nat → Int) (ha : BY a) (now : Int) :
    Calls Tryz.prog 63 #[.pointer (some ⟨m, 0, none⟩), .agg (arrI .u8 f 32 0).toArray, .string g, .agg (arrI .u8 a 16 0).toArray, .int .i64 now] w fun e w' => e = .returned (.int .i64 (xrlE M (idI f, g) a now)) ∧ MoR w' B m (xrlM M (idI f, g) a now) P ∧ Kp (MF w B) w w' := by
  refine vc_xrelease m f g a now w _ (fun n n1 W hW => ?_)
  have kW : K0 w W := hW.kk rfl
  have c0 := hW.cells 0 rfl
  have c1 := hW.cells 1 rfl
  have hel := ho.el
  refine ⟨(xmin_any now W).mono fun e w1 ⟨he, k1⟩ => ⟨_, he, .of_k0 k1, bsp_intro (fun h1 => ?_) (fun h1 => ?_)⟩⟩
  · have h1 := minB_ft h1
    have hE : xrlE M (idI f, g) a now = 2 := by unfold xrlE; rw [if_pos h1]
    have hM : xrlM M (idI f, g) a now = M := by unfold xrlM; rw [hE, if_neg (by decide)]
    rw [hE, hM]
    exact ⟨rfl, h.k0 (kW.trans k1), .mf0 (kW.trans k1)⟩
  have h1 := minB_ff h1
  have k01 := kW.trans k1
  refine ⟨(xfind39_any (h.k0 k01) (by omega) f hf (fun x hx => (ho.es x hx).1.s.id) g).mono fun e w2 ⟨hfd, k2⟩ => ?_⟩
  have k02 := k01.trans k2
  have h2 := h.k0 k02
  rcases hfd with ⟨he, hno⟩ | ⟨i, y, he, hy, hky⟩
  · have hE : xrlE M (idI f, g) a now = 8 := by unfold xrlE Mo.fd; rw [if_neg (by rw [h1]; decide), no_fd hno]
    have hM : xrlM M (idI f, g) a now = M := by unfold xrlM; rw [hE, if_neg (by decide)]
    rw [hE, hM]
    refine ⟨_, he, .of_k0 k2, none, 0, 0, gimp_neg rfl, nn_neg rfl fun _ _ => ⟨gimp_neg rfl, 0, gimp_neg rfl, bsp_intro (fun _ => ⟨rfl, h2, .mf0 k02⟩) (fun h => by cases h)⟩⟩
  have hi : i < M.es.length := (List.getElem?_eq_some_iff.1 hy).1
  obtain ⟨y2, b, o, hy2, hp, hat⟩ := h2.rowE.get hi
  rw [hy] at hy2
  cases hy2
  obtain ⟨gg, hg, hwr54⟩ := own_wrc h2.ew hi (j := 54) (by decide)
  rw [hp] at hg
  simp only [Option.some.injEq, Addr.mk.injEq, and_true] at hg
  obtain ⟨rfl, rfl⟩ := hg
  have hfd : M.fd (idI f, g) = some y := dis_fd ho.dis hy hky
  have hyo := (ho.es y (List.mem_of_getElem? hy)).1
  have hE0 : xrlE M (idI f, g) a now = if y.s.st ≠ 0 then 8 else if inE y now = false ∨ auI y.ho ≠ auI a then 10 else 0 := by
    unfold xrlE
    rw [if_neg (by rw [h1]; decide), hfd]
  refine ⟨_, he, .of_k0 k2, _, _, _, gimp_intro fun _ => h2.cE, nn_is hp ⟨gimp_intro fun _ => ⟨by omega, by omega⟩, y.s.st, gimp_intro fun _ => by rw [Int.toNat_natCast]; exact hat.cell (j := 35) rfl, ?_⟩⟩
  rw [Int.toNat_natCast]
  have hdi : decide ((i : Int) < 0) = false := by simp
  rw [hdi, Bool.false_or]
  refine bsp_intro (fun h3 => ?_) (fun h3 => ⟨_, _, _, h2.cE, nn_is hp ⟨⟨by omega, by omega⟩, y.s.id, y.s.g, y.s.tx, y.s.r, y.s.st, y.s.mo, y.s.de, y.s.rs, y.le, y.ho, y.si, hat, ?_⟩⟩)
  · have h3 : y.s.st ≠ 0 := by simpa using h3
    rw [if_pos h3] at hE0
    have hM : xrlM M (idI f, g) a now = M := by unfold xrlM; rw [hE0, if_neg (by decide)]
    rw [hE0, hM]
    exact ⟨rfl, h2, .mf0 k02⟩
  have h3 : y.s.st = 0 := by simpa using h3
  rw [if_neg (by omega)] at hE0
  have hwd : hdW y now = inE y now := by unfold hdW; simp [h3]
  refine ⟨(xholder_any y now hyo.si w2).mono fun e w3 ⟨he, k3⟩ => ⟨_, _, he, .of_k0 k3, fun n4 => ⟨_, gimp_intro fun _ => auEq (hdA_by hyo now) ha, ?_⟩⟩⟩
  rw [hwd]
  have k03 := k02.trans k3
  have h3' := h2.k0 k3
  refine bsp_intro (fun h4 W4 hW4 => ?_) (fun h4 W4 hW4 => ?_)
  · have h4 : inE y now = false ∨ auI y.ho ≠ auI a := by
      rcases hin : inE y now with _ | _
      · exact .inl rfl
      · right
        rw [hin] at h4
        unfold hdA at h4
        rw [hwd, hin, if_pos rfl] at h4
        simpa using h4
    rw [if_pos h4] at hE0
    have hM : xrlM M (idI f, g) a now = M := by unfold xrlM; rw [hE0, if_neg (by decide)]
    rw [hE0, hM]
    have k4 : K0 w W4 := hW4.k0 k03
    exact ⟨rfl, h.k0 k4, .mf0 k4⟩
  have h4 : ¬ (inE y now = false ∨ auI y.ho ≠ auI a) := by
    simp only [Bool.or_eq_false_iff, Bool.not_eq_eq_eq_not, Bool.not_false] at h4
    have h5 := h4.2
    unfold hdA at h5
    rw [hwd, h4.1, if_pos rfl] at h5
    rw [h4.1]
    simpa using h5
  rw [if_neg h4] at hE0
  have k4 : K0 w W4 := hW4.k0 k03
  have hM4 := h.k0 k4
  have f0 := hW4.cells 0 rfl
  have f1 := hW4.cells 1 rfl
  have f2 := hW4.cells 2 rfl
  obtain ⟨g4, hg4, hwr4⟩ := own_wrc hM4.ew hi (j := 54) (by decide)
  rw [hp] at hg4
  simp only [Option.some.injEq, Addr.mk.injEq, and_true] at hg4
  subst hg4
  refine ⟨fun wx => K0 W4 wx, .refl _ _, _, _, _, fun wx k => (hM4.k0 k).cE, _, _, _, fun wx k => (hM4.k0 k).cE, _, _, _, fun wx k => (hM4.k0 k).cE, nn_is hp ⟨⟨by omega, by omega⟩, hwr4, fun w5 p5 => ?_⟩⟩
  obtain ⟨hM5, k5⟩ := hM4.part hy hp (by show 54 + 1 ≤ 72; omega) (put_leE y false) p5
  have hi5 : i < ({ M with es := M.es.set i { y with le := false } } : Mo).es.length := by show i < (M.es.set i _).length; rw [List.length_set]; exact hi
  obtain ⟨g5, hg5, hwr5⟩ := own_wrp hM5.ew hi5 (j := 55) (m := 16) (by decide)
  rw [hp] at hg5
  simp only [Option.some.injEq, Addr.mk.injEq, and_true] at hg5
  subst hg5
  refine nn_is hp ⟨⟨by omega, by omega⟩, hwr5, fun w6 p6 => ?_⟩
  obtain ⟨hM6, k6⟩ := hM5.part (i := i) (y := { y with le := false }) (by show (M.es.set i _)[i]? = _; rw [List.getElem?_set]; simp [hi]) hp (by show 55 + 16 ≤ 72; omega) (put_ho { y with le := false } (fun _ => 0)) p6
  have hi6 : i < ((M.es.set i { y with le := false }).set i { y with le := false, ho := fun _ => 0 }).length := by rw [List.length_set, List.length_set]; exact hi
  obtain ⟨g6, hg6, hwr6⟩ := own_wrc hM6.ew hi6 (j := 71) (by decide)
  rw [hp] at hg6
  simp only [Option.some.injEq, Addr.mk.injEq, and_true] at hg6
  subst hg6
  refine nn_is hp ⟨⟨by omega, by omega⟩, hwr6, fun w7 p7 => ?_⟩
  have p6' : PutB w5 b (0 + i * 72 + 55) (arrI .u8 (fun _ => 0) 16 0) w6 := p6
  obtain ⟨hM7, k7⟩ := hM4.lease hy hp p5 p6' p7
  have kp7 : Kp (· = b) W4 w7 := (p5.kp.trans p6.kp).trans p7.kp
  obtain ⟨cc, hcc⟩ := own_type hM4.ew (k := b) (by rw [hp]; rfl)
  have hM : xrlM M (idI f, g) a now = { M with es := M.es.set i ⟨y.s, false, fun _ => 0, 0⟩ } := by
    unfold xrlM
    rw [hE0, if_pos rfl]
    unfold Mo.up
    rw [← dis_set (fun y => plainE y.s) ho.dis hy hky]
    rfl
  rw [hE0, hM]
  refine ⟨.of_kp kp7 (fun z hz e => ?_), rfl, hM7, (Kp.mf0 k4).mft k7⟩
  simp only [List.mem_cons, List.not_mem_nil, or_false] at hz
  rcases hz with rfl | rfl | rfl
  · exact blk_ne f0 hcc rfl e
  · exact blk_ne f1 hcc rfl e
  · exact blk_ne f2 hcc rfl e

/-! ### claim -/
def xclE (M : Mo) (g : ByteArray) (a : Nat → Int) (now : Int) : Int := if minB now = false then 2 else if isMB (M.md g) a = false then 20 else match M.es.find? (clP g (auI a) now) with
  | none => 8
  | some _ => 0
def xclS (M : Mo) (g : ByteArray) (a : Nat → Int) (now : Int) : Sb := if xclE M g a now = 0 then ((M.es.find? (clP g (auI a) now)).getD enz).s else sbz
def xclM (M : Mo) (g : ByteArray) (a : Nat → Int) (now : Int) : Mo := if xclE M g a now = 0 then M.up (xclS M g a now).ky (fun y => ⟨y.s, true, a, now⟩) else M
theorem sb_left (x : En) {w : World} {b o : Nat} (h : AtL w b o (enC x)) : AtL w b o (sbC x.s) := by
  have e : enC x = sbC x.s ++ (([.bool x.le] : List Value) ++ (arrI .u8 x.ho 16 0 ++ ([.int .i64 x.si] : List Value))) := by
    unfold enC sbC
    simp only [List.append_assoc, List.cons_append, List.nil_append]
  rw [e] at h
  exact h.left
set_option maxHeartbeats 4000000 in
set_option maxRecDepth 100000 in
theorem xclaim_any {w : World} {B m : Nat} {M : Mo} {P : Pl} (h : MoR w B m M P) (ho : M.OK) (g : ByteArray) (a : Nat → Int) (ha : BY a) (now : Int) :
    Calls Tryz.prog 62 #[.pointer (some ⟨m, 0, none⟩), .string g, .agg (arrI .u8 a 16 0).toArray, .int .i64 now] w fun e w' => e = .returned (.tuple #[sbV (xclS M g a now), .int .i64 (xclE M g a now)]) ∧ MoR w' B m (xclM M g a now) P ∧ Kp (MF w B) w w' := by
  refine vc_xclaim m g a now w _ (fun n n1 W hW => ?_)
  have kW : K0 w W := hW.kk rfl
  have c0 := hW.cells 0 rfl
  have c1 := hW.cells 1 rfl
  have gn1 : w.heap.size ≤ n1 := hW.fresh 0 rfl rfl
  have hel := ho.el
  have hgl := ho.gl
  have bad : ∀ {E : Int}, xclE M g a now = E → E ≠ 0 → xclS M g a now = sbz ∧ xclM M g a now = M := fun hE h0 => by
    constructor
    · unfold xclS; rw [hE, if_neg h0]
    · unfold xclM; rw [hE, if_neg h0]
  refine ⟨(xmin_any now W).mono fun e w1 ⟨he, k1⟩ => ⟨_, he, .of_k0 k1, bsp_intro (fun h1 W2 hW2 => ?_) (fun h1 => ?_)⟩⟩
  · have h1 := minB_ft h1
    have hE : xclE M g a now = 2 := by unfold xclE; rw [if_pos h1]
    obtain ⟨hS, hM⟩ := bad hE (by decide)
    rw [hE, hS, hM]
    have k2 : K0 w W2 := hW2.k0 (kW.trans k1)
    exact ⟨rfl, h.k0 k2, .mf0 k2⟩
  have h1 := minB_ff h1
  have k01 := kW.trans k1
  refine ⟨(xis_any (h.k0 k01) (by omega) g a ha (ho.md g)).mono fun e w2 ⟨he, k2⟩ => ⟨_, he, .of_k0 k2, bsp_intro (fun h2 W3 hW3 => ?_) (fun h2 => ?_)⟩⟩
  · have h2 : isMB (M.md g) a = false := by simpa using h2
    have hE : xclE M g a now = 20 := by unfold xclE; rw [if_neg (by rw [h1]; decide), if_pos h2]
    obtain ⟨hS, hM⟩ := bad hE (by decide)
    rw [hE, hS, hM]
    have k3 : K0 w W3 := hW3.k0 (k01.trans k2)
    exact ⟨rfl, h.k0 k3, .mf0 k3⟩
  have h2 : isMB (M.md g) a = true := by simpa using h2
  have k02 := k01.trans k2
  have hE0 : xclE M g a now = match M.es.find? (clP g (auI a) now) with
      | none => 8
      | some _ => 0 := by unfold xclE; rw [if_neg (by rw [h1]; decide), if_neg (by rw [h2]; decide)]
  have kW2 := k1.trans k2
  have d0 := kW2.blk c0 (fun h => h)
  have d1 := kW2.blk c1 (fun h => h)
  simp only at d0 d1
  refine ⟨fun vs w' => ∃ i : Nat, vs = [.int .i64 (i : Int)] ∧ i ≤ M.es.length ∧ (∀ (j : Nat) (y : En), j < i → M.es[j]? = some y → clP g (auI a) now y = false) ∧ K0 w w' ∧ K0 w2 w', fun vs _ => (match vs with | .int _ a :: _ => M.es.length - a.toNat | _ => 0), ⟨0, rfl, by omega, fun j y h => by omega, k02, .refl _ _⟩, ?_⟩
  rintro x w3 ⟨i, hv, hi, hno, k03, k23⟩ hL
  simp only [List.cons.injEq, Value.int.injEq, true_and, and_true] at hv
  subst hv
  have h3 := h.k0 k03
  refine ⟨_, _, _, h3.cE, bsp_intro (fun hlt => ⟨_, _, _, h3.cE, ?_⟩) (fun hge => ?_)⟩
  rotate_left
  · have hi2 : i = M.es.length := by simp at hge; omega
    subst hi2
    have hnf : M.es.find? (clP g (auI a) now) = none := find_no39 fun j y hy => hno j y (List.getElem?_eq_some_iff.1 hy).1 hy
    rw [hnf] at hE0
    have hE0 : xclE M g a now = 8 := hE0
    obtain ⟨hS, hM⟩ := bad hE0 (by decide)
    rw [hE0, hS, hM]
    have e0 := k23.blk d0 (fun h => h)
    have e1 := k23.blk d1 (fun h => h)
    refine ⟨WrL_block e0 (by show 0 + 54 ≤ 54; omega), fun w4 p4 => ⟨.of_kp p4.kp (fun z hz e => ?_), sbz.id, sbz.g, sbz.tx, sbz.r, sbz.st, sbz.mo, sbz.de, sbz.rs, ?_, rfl, ?_, ?_⟩⟩
    · simp only [List.mem_cons, List.not_mem_nil, or_false] at hz
      subst hz
      exact blk_ne e1 e0 rfl e
    · have p4' : PutB w3 n1 0 (sbC sbz) w4 := p4
      exact AtL_block (p4'.full e0 rfl) rfl
    · exact h3.off p4.kp (fun k e => by have e : k = n1 := e; rw [e]; exact ⟨_, _, e0⟩) rfl
    · have k4 : K0 w w4 := k03.fresh p4.kp (fun k hk e => by have e : k = n1 := e; omega)
      exact .mf0 k4
  have hlt : i < M.es.length := by simp at hlt; omega
  obtain ⟨y, b, o, hy, hp, hat⟩ := h3.rowE.get hlt
  obtain ⟨gg, hg, _⟩ := own_wrc h3.ew hlt (j := 54) (by decide)
  rw [hp] at hg
  simp only [Option.some.injEq, Addr.mk.injEq, and_true] at hg
  obtain ⟨rfl, rfl⟩ := hg
  have hyo := (ho.es y (List.mem_of_getElem? hy)).1
  rw [Int.toNat_natCast]
  have next : clP g (auI a) now y = false → ∀ {W : World}, K0 w3 W → (∃ i' : Nat, ([.int .i64 (IntKind.i64.wrap ((i : Int) + 1))] : List Value) = [.int .i64 (i' : Int)] ∧ i' ≤ M.es.length ∧ (∀ (j : Nat) (y : En), j < i' → M.es[j]? = some y → clP g (auI a) now y = false) ∧ K0 w W ∧ K0 w2 W) := fun hc W k => by
    refine ⟨i + 1, by rw [inc64 (by omega)], hlt, fun j z hj hz => ?_, k03.trans k, k23.trans k⟩
    by_cases e : j = i
    · subst e; rw [hy] at hz; cases hz; exact hc
    · exact hno j z (by omega) hz
  have dec : M.es.length - (IntKind.i64.wrap ((i : Int) + 1)).toNat < M.es.length - (i : Int).toNat := by
    rw [inc64 (by omega)]; simp only [Int.toNat_natCast]; omega
  refine nn_is hp ⟨⟨by omega, by omega⟩, y.s.id, y.s.g, y.s.tx, y.s.r, y.s.st, y.s.mo, y.s.de, y.s.rs, y.le, y.ho, y.si, hat, fun n4 => ⟨y.s.g, gimp_intro fun _ W4 hW4 => cell_at (hW4.cells 1 rfl) rfl, bsp_intro (fun h4 W4 hW4 => ?_) (fun h4 W4 hW4 => ?_)⟩⟩
  · rw [str_beq] at h4
    have hc : clP g (auI a) now y = false := by
      unfold clP
      have : (decide (y.s.g = g) && y.s.st == 0) = false := by
        rcases hd : decide (y.s.g = g) with _ | _
        · rfl
        · rw [hd] at h4
          simp at h4
          simp [h4]
      rw [this]; rfl
    exact ⟨next hc (hW4.kk rfl), dec⟩
  rw [str_beq] at h4
  have h4 : y.s.st = 0 ∧ y.s.g = g := by simpa using h4
  have k4 : K0 w3 W4 := hW4.kk rfl
  have e1 := hW4.cells 0 rfl
  have n4b : n4 ≠ b := by
    have q1 : w3.heap.size ≤ n4 := hW4.fresh 1 rfl rfl
    have q2 := own_lt h3.ew (k := b) (by rw [hp]; rfl)
    omega
  have hblk := hdW_blk y a now h4.1
  refine ⟨(xholder_any y now hyo.si W4).mono fun e w5 ⟨he, k5⟩ => ⟨_, _, he, .of_k0 k5, fun n5 => ⟨_, gimp_intro fun _ => auEq (hdA_by hyo now) ha, ?_⟩⟩⟩
  rw [hblk]
  have k35 := k4.trans k5
  refine bsp_intro (fun h5 W6 hW6 => ?_) (fun h5 W6 hW6 => ?_)
  · have hc : clP g (auI a) now y = false := by unfold clP; rw [h5]; simp
    exact ⟨next hc (k35.trans (hW6.kk rfl)), dec⟩
  have hc : clP g (auI a) now y = true := by unfold clP; rw [h5, h4.1, h4.2]; simp
  have hfd : M.es.find? (clP g (auI a) now) = some y := find_at39 M.es i y hy hc hno
  rw [hfd] at hE0
  have hE0 : xclE M g a now = 0 := hE0
  have hS : xclS M g a now = y.s := by unfold xclS; rw [hE0, if_pos rfl, hfd]; rfl
  have hM : xclM M g a now = { M with es := M.es.set i ⟨y.s, true, a, now⟩ } := by
    unfold xclM
    rw [hE0, if_pos rfl, hS]
    unfold Mo.up
    rw [← dis_set (fun y => ⟨y.s, true, a, now⟩) ho.dis hy rfl]
  rw [hE0, hS, hM]
  have k6 : K0 w3 W6 := k35.trans (hW6.kk rfl)
  have k06 := k03.trans k6
  have hM6 := h.k0 k06
  have f0 := hW6.cells 0 rfl
  have f1 := hW6.cells 1 rfl
  have f2 := hW6.cells 2 rfl
  have fn1 := (k23.trans k6).blk d0 (fun h => h)
  have fn := (k23.trans k6).blk d1 (fun h => h)
  obtain ⟨cc, hcc⟩ := own_type hM6.ew (k := b) (by rw [hp]; rfl)
  obtain ⟨g6, hg6, hwr6⟩ := own_wrc hM6.ew hlt (j := 54) (by decide)
  rw [hp] at hg6
  simp only [Option.some.injEq, Addr.mk.injEq, and_true] at hg6
  subst hg6
  have nmb : m ≠ b := fun e => by have h9 := hM6.st; rw [e, hcc] at h9; cases h9
  have nnb : n ≠ b := blk_ne fn hcc rfl
  have cE6 : ∀ wx, Kp (· = b) W6 wx → wx.cell? ⟨m, 0 + 3, none⟩ = some (.slice P.ep M.es.length P.ec) := fun wx k => k.cell' hM6.cE nmb
  refine ⟨fun wx => Kp (· = b) W6 wx, .refl _ _, _, _, _, cE6, _, _, _, cE6, _, _, _, cE6, a, fun wx k => AtL_block (k.blk fn nnb) rfl, nn_is hp ⟨⟨by omega, by omega⟩, hwr6, fun w7 p7 => ⟨p7.kp, ?_⟩⟩⟩
  obtain ⟨hM7, k7⟩ := hM6.part hy hp (by show 54 + 1 ≤ 72; omega) (put_leE y true) p7
  have hi7 : i < (M.es.set i { y with le := true }).length := by rw [List.length_set]; exact hlt
  obtain ⟨g7, hg7, hwr7⟩ := own_wrp hM7.ew hi7 (j := 55) (m := 16) (by decide)
  rw [hp] at hg7
  simp only [Option.some.injEq, Addr.mk.injEq, and_true] at hg7
  subst hg7
  refine nn_is hp ⟨⟨by omega, by omega⟩, hwr7, fun w8 p8 => ?_⟩
  obtain ⟨hM8, k8⟩ := hM7.part (i := i) (y := { y with le := true }) (by show (M.es.set i _)[i]? = _; rw [List.getElem?_set]; simp [hlt]) hp (by show 55 + 16 ≤ 72; omega) (put_ho { y with le := true } a) p8
  have hi8 : i < ((M.es.set i { y with le := true }).set i { y with le := true, ho := a }).length := by rw [List.length_set, List.length_set]; exact hlt
  obtain ⟨g8, hg8, hwr8⟩ := own_wrc hM8.ew hi8 (j := 71) (by decide)
  rw [hp] at hg8
  simp only [Option.some.injEq, Addr.mk.injEq, and_true] at hg8
  subst hg8
  refine nn_is hp ⟨⟨by omega, by omega⟩, hwr8, fun w9 p9 => ?_⟩
  obtain ⟨hM9, k9⟩ := hM6.lease hy hp p7 p8 p9
  have kp9 : Kp (· = b) W6 w9 := (p7.kp.trans p8.kp).trans p9.kp
  have n1b : n1 ≠ b := blk_ne fn1 hcc rfl
  have gn1' := kp9.blk fn1 n1b
  refine ⟨.of_kp kp9 (fun z hz e => ?_), WrL_block gn1' (by show 0 + 54 ≤ 54; omega), fun wa pa => ⟨.of_kp pa.kp (fun z hz e => ?_), y.s.id, y.s.g, y.s.tx, y.s.r, y.s.st, y.s.mo, y.s.de, y.s.rs, ?_, rfl, ?_, ?_⟩⟩
  · simp only [List.mem_cons, List.not_mem_nil, or_false] at hz
    rcases hz with rfl | rfl | rfl
    · exact nnb e
    · exact blk_ne f1 hcc rfl e
    · exact n4b e
  · simp only [List.mem_cons, List.not_mem_nil, or_false] at hz
    rcases hz with rfl | rfl | rfl
    · exact blk_ne fn fn1 rfl e
    · exact blk_ne f1 fn1 rfl e
    · exact blk_ne f2 fn1 rfl e
  · have pa' : PutB w9 n1 0 (sbC y.s) wa := pa
    exact AtL_block (pa'.full gn1' rfl) rfl
  · exact hM9.off pa.kp (fun k e => by have e : k = n1 := e; rw [e]; exact ⟨_, _, gn1'⟩) rfl
  · exact ((Kp.mf0 k06).mft k9).fresh pa.kp (fun k hk e => by have e : k = n1 := e; omega)

end Go.Proofs.YtfacflbmlfbeeaaGreatDoor

/- Chapter 39: the contracts of the reference's lapse, forget. Bytes are bytes; lists are not too long. -/
namespace Go.Proofs.YtfacflbmlfbeeaaGreatDoor
open Go.RowKit Go.Sort Go.Maps

/-! ### lapse -/
def lpF (last now : Int) (x : En) : En := if lapP last x = true then plainE (fin3 now x.s) else x
def xlpM (M : Mo) (now : Int) : Mo := if minB now = true then { M with es := M.es.map (lpF (now - M.days * 1440) now) } else M
def xlpL (M : Mo) (now : Int) : List Sb := if minB now = true then (M.es.filter (lapP (now - M.days * 1440))).map (fun x => fin3 now x.s) else []
theorem map_step {α : Type} (F : α → α) {l : List α} {i : Nat} {x : α} (h : l[i]? = some x) (hF : F x = x) : (l.take i).map F ++ l.drop i = (l.take (i + 1)).map F ++ l.drop (i + 1) := by
  have hi := (List.getElem?_eq_some_iff.1 h).1
  have e : l.drop i = x :: l.drop (i + 1) := by
    rw [List.drop_eq_getElem_cons hi]
    rw [List.getElem?_eq_getElem hi] at h
    cases h; rfl
  rw [e, take_snoc h, List.map_append, List.append_assoc]
  simp [hF]
theorem map_at {α : Type} (F : α → α) {l : List α} {i : Nat} {x : α} (h : l[i]? = some x) : ((l.take i).map F ++ l.drop i)[i]? = some x := by
  have hi := (List.getElem?_eq_some_iff.1 h).1
  rw [List.getElem?_append_right (by simp; omega)]
  simp only [List.length_map, List.length_take]
  rw [show i - min i l.length = 0 by omega, List.getElem?_drop]
  simpa using h
theorem map_len {α : Type} (F : α → α) (l : List α) (i : Nat) : ((l.take i).map F ++ l.drop i).length = l.length := by simp; omega
set_option maxHeartbeats 4000000 in
set_option maxRecDepth 100000 in
theorem xlapse_any {w : World} {B m : Nat} {M : Mo} {P : Pl} (h : MoR w B m M P) (ho : M.OK) (now : Int) :
    Calls Tryz.prog 35 #[.pointer (some ⟨m, 0, none⟩), .int .i64 now] w fun e w' => (∃ (p : Option Addr) (c : Nat), e = .returned (.slice p (xlpL M now).length c) ∧ w'.ownsRow w.heap.size 48 54 (.slice p (xlpL M now).length c) (xlpL M now).length ((xlpL M now).flatMap sbC)) ∧ MoR w' B m (xlpM M now) P ∧ Kp (MF w B) w w' := by
  have hel := ho.el
  have hday := ho.days
  have hBw : B ≤ w.heap.size := Nat.le_of_lt (Nat.lt_of_le_of_lt h.ge (block_lt h.st))
  refine vc_xlapse m now w _ ?_
  refine ⟨fun vs w' => ∃ (i : Nat) (p : Option Addr) (c : Nat) (out : List Sb), vs = [.int .i64 (i : Int), .slice p out.length c] ∧ i ≤ M.es.length ∧ (i = 0 ∨ minB now = true) ∧ out.length ≤ i ∧ out = ((M.es.take i).filter (lapP (now - M.days * 1440))).map (fun x => fin3 now x.s) ∧ w'.ownsRow w.heap.size 48 54 (.slice p out.length c) out.length (out.flatMap sbC) ∧ MoR w' B m { M with es := (M.es.take i).map (lpF (now - M.days * 1440) now) ++ M.es.drop i } P ∧ Kp (MF w B) w w',
    fun vs _ => (match vs with | .int _ a :: _ => M.es.length - a.toNat | _ => 0), ⟨0, none, 0, [], rfl, by omega, .inl rfl, Nat.le_refl _, rfl, World.ownsRow_nil _ _ _ _, by simpa using h, .refl _ _⟩, ?_⟩
  rintro x p n c w1 ⟨i, p', c', out, hv, hi, hmi, hol, hout, hown, h1, k1⟩
  simp only [List.cons.injEq, Value.int.injEq, Value.slice.injEq, true_and, and_true] at hv
  obtain ⟨rfl, rfl, rfl, rfl⟩ := hv
  have hlen := map_len (lpF (now - M.days * 1440) now) M.es i
  have fin : i = M.es.length → ∀ {w2 : World}, K0 w1 w2 → (∃ (p' : Option Addr) (c' : Nat), Ending.returned (.slice p out.length c) = .returned (.slice p' (xlpL M now).length c') ∧ w2.ownsRow w.heap.size 48 54 (.slice p' (xlpL M now).length c') (xlpL M now).length ((xlpL M now).flatMap sbC)) ∧ MoR w2 B m (xlpM M now) P ∧ Kp (MF w B) w w2 := fun hi2 w2 k2 => by
    subst hi2
    rw [List.take_length] at hout h1
    rw [List.drop_length, List.append_nil] at h1
    have eL : xlpL M now = out := by
      unfold xlpL
      rcases hmi with h0 | hm
      · have : M.es = [] := List.eq_nil_of_length_eq_zero h0
        rw [hout, this]; simp
      · rw [if_pos hm, hout]
    have eM : xlpM M now = { M with es := M.es.map (lpF (now - M.days * 1440) now) } := by
      unfold xlpM
      rcases hmi with h0 | hm
      · have he : M.es = [] := List.eq_nil_of_length_eq_zero h0
        split
        · rfl
        · obtain ⟨a, b, c, d⟩ := M
          simp only at he
          subst he
          rfl
      · rw [if_pos hm]
    rw [eL, eM]
    exact ⟨⟨p, c, rfl, owns_kp hown k2 (fun _ _ h => h)⟩, h1.k0 k2, k1.mft (.mf0 k2)⟩
  refine ⟨_, _, _, h1.cE, bsp_intro (fun hlt => ?_) (fun hge => ?_)⟩
  rotate_left
  · have hi2 : i = M.es.length := by rw [hlen] at hge; simp at hge; omega
    exact ⟨.refl _ _, fin hi2 (.refl _ _)⟩
  have hlt : i < M.es.length := by rw [hlen] at hlt; simp at hlt; omega
  refine ⟨(xmin_any now w1).mono fun e w2 ⟨he, k2⟩ => ⟨_, he, .of_k0 k2, bsp_intro (fun hm => ?_) (fun hm => ?_)⟩⟩
  rotate_left
  · have hm : minB now = false := by simpa using hm
    have h0 : i = 0 := by
      rcases hmi with h0 | h0
      · exact h0
      · rw [hm] at h0; cases h0
    subst h0
    have eL : xlpL M now = [] := by unfold xlpL; rw [if_neg (by rw [hm]; decide)]
    have eM : xlpM M now = M := by unfold xlpM; rw [if_neg (by rw [hm]; decide)]
    have hon : out = [] := by rw [hout]; simp
    subst hon
    rw [eL, eM]
    have h1 : MoR w1 B m M P := by simpa using h1
    exact ⟨⟨p, c, rfl, owns_kp hown k2 (fun _ _ h => h)⟩, h1.k0 k2, k1.mft (.mf0 k2)⟩
  have hm : minB now = true := by simpa using hm
  have hnow := minB_iff.1 hm
  have h2 := h1.k0 k2
  obtain ⟨x, hx⟩ : ∃ x, M.es[i]? = some x := ⟨_, List.getElem?_eq_getElem hlt⟩
  have hxi := map_at (lpF (now - M.days * 1440) now) hx
  have hlt' : i < ((M.es.take i).map (lpF (now - M.days * 1440) now) ++ M.es.drop i).length := by rw [hlen]; exact hlt
  obtain ⟨y, b, o, hy, hp, hat⟩ := h2.rowE.get hlt'
  have hy : ((M.es.take i).map (lpF (now - M.days * 1440) now) ++ M.es.drop i)[i]? = some y := hy
  rw [hxi] at hy
  cases hy
  rw [Int.toNat_natCast]
  have hst : w2.cell? ⟨b, o + i * 72 + 35, none⟩ = some (.int .i64 x.s.st) := hat.cell (j := 35) rfl
  have hrr : w2.cell? ⟨b, o + i * 72 + 34, none⟩ = some (.int .i64 x.s.r) := hat.cell (j := 34) rfl
  have hsn : ((M.es.take (i + 1)).filter (lapP (now - M.days * 1440))).map (fun x => fin3 now x.s) = out ++ (if lapP (now - M.days * 1440) x = true then [fin3 now x.s] else []) := by
    rw [take_snoc hx, List.filter_append, List.map_append, List.filter_cons, List.filter_nil, ← hout]
    split <;> rfl
  have elast : IntKind.i64.wrap (now - IntKind.i64.wrap (M.days * 1440)) = now - M.days * 1440 := by rw [wr64 (x := M.days * 1440) (by omega) (by omega), wr64 (by omega) (by omega)]
  have hltI : (i : Int) < ((((M.es.take i).map (lpF (now - M.days * 1440) now) ++ M.es.drop i).length : Nat) : Int) := by omega
  refine ⟨_, _, _, fun W hW => (h2.k0 (hW.kk rfl)).cE, nn_is hp ⟨⟨by omega, hltI⟩, x.s.st, fun W hW => (hW.kk rfl : K0 w2 W).cell' hst (fun h => h), _, _, _, gimp_intro fun _ W hW => (h2.k0 (hW.kk rfl)).cE, nn_is hp ⟨gimp_intro fun _ => ⟨by omega, hltI⟩, x.s.r, gimp_intro fun _ W hW => (hW.kk rfl : K0 w2 W).cell' hrr (fun h => h), M.days, gimp_intro fun _ W hW => (h2.k0 (hW.kk rfl)).cD, ?_⟩⟩⟩
  rw [elast]
  have ec : (x.s.st == 0 && decide (x.s.r ≤ now - M.days * 1440)) = lapP (now - M.days * 1440) x := rfl
  rw [ec]
  have k12 := k1.mft (.mf0 k2)
  refine bsp_intro (fun hl W hW => ?_) (fun hl W hW => ?_)
  rotate_left
  · have kW : K0 w2 W := hW.kk rfl
    rw [if_neg (by rw [hl]; decide), List.append_nil] at hsn
    have hF : lpF (now - M.days * 1440) now x = x := by unfold lpF; rw [if_neg (by rw [hl]; decide)]
    have h3 := h2.k0 kW
    rw [map_step _ hx hF] at h3
    rw [inc64 (by omega)]
    exact ⟨⟨i + 1, p, c, out, rfl, hlt, .inr hm, by omega, hsn.symm, owns_kp hown (k2.trans kW) (fun _ _ h => h), h3, k12.mft (.mf0 kW)⟩, by simp only [Int.toNat_natCast]; omega⟩
  rw [if_pos hl] at hsn
  have hF : lpF (now - M.days * 1440) now x = plainE (fin3 now x.s) := by unfold lpF; rw [if_pos hl]
  have kW : K0 w2 W := hW.kk rfl
  have h3 := h2.k0 kW
  have hownW := owns_kp hown (k2.trans kW) (fun _ _ h => h)
  refine ⟨(xend_any h3 hxi 3 (fun _ => 0) ⟨#[]⟩ now).mono fun e w4 ⟨he, h4, k4⟩ => ⟨he, .of_kp k4 (fun z hz => by cases hz), ?_⟩⟩
  have hsm := set_mid (lpF (now - M.days * 1440) now) M.es i x hx
  rw [hF] at hsm
  have h4 : MoR w4 B m { M with es := ((M.es.take i).map (lpF (now - M.days * 1440) now) ++ M.es.drop i).set i (plainE (fin3 now x.s)) } P := h4
  rw [hsm] at h4
  have hlen4 := map_len (lpF (now - M.days * 1440) now) M.es (i + 1)
  have hlt4 : i < ((M.es.take (i + 1)).map (lpF (now - M.days * 1440) now) ++ M.es.drop (i + 1)).length := by rw [hlen4]; exact hlt
  obtain ⟨y, b4, o4, hy4, hp4, hat4⟩ := h4.rowE.get hlt4
  have hy4 : ((M.es.take (i + 1)).map (lpF (now - M.days * 1440) now) ++ M.es.drop (i + 1))[i]? = some y := hy4
  rw [← hsm, List.getElem?_set, if_pos rfl, if_pos (by rw [hlen]; exact hlt)] at hy4
  cases hy4
  have hat4 := sb_left _ hat4
  have hat4 : AtL w4 b4 (o4 + i * 72) (sbC (fin3 now x.s)) := hat4
  have hown4 := owns_kp hownW k4 (fun k hk => by
    obtain ⟨cc, hcc⟩ := own_type hownW hk
    exact mf_no hcc (by decide))
  generalize hX : fin3 now x.s = X at *
  have hltI4 : (i : Int) < ((((M.es.take (i + 1)).map (lpF (now - M.days * 1440) now) ++ M.es.drop (i + 1)).length : Nat) : Int) := by omega
  refine ⟨_, _, _, h4.cE, nn_is hp4 ⟨⟨by omega, hltI4⟩, X.id, X.g, X.tx, X.r, X.st, X.mo, X.de, X.rs, hat4, fun n5 W5 hW5 => ?_⟩⟩
  have k5 : K0 w4 W5 := hW5.kk rfl
  have h5 := h4.k0 k5
  have hown5 := owns_kp hown4 k5 (fun _ _ h => h)
  have ks : w.heap.size ≤ W5.heap.size := Nat.le_trans k1.size (Nat.le_trans k2.size (Nat.le_trans kW.size (Nat.le_trans k4.size k5.size)))
  have e1 : out.length + 1 = (out ++ [X]).length := by simp
  have e2 : (out ++ [X]).flatMap sbC = out.flatMap sbC ++ sbC X := by rw [List.flatMap_append]; simp [List.flatMap_cons]
  refine ⟨w.heap.size, _, hown5, by omega, by omega, ks, fun p6 c6 w6 ho6 hg6 _ => ?_⟩
  have kg := kp_grown hg6
  have h6 := h5.off kg (fun k hk => by
    obtain ⟨cc, hcc⟩ := own_type hown5 hk
    exact ⟨cc, _, hcc⟩) rfl
  have k05 : Kp (MF w B) w W5 := ((k12.mft (.mf0 kW)).mft k4).mft (.mf0 k5)
  rw [inc64 (by omega)]
  refine ⟨.of_kp kg (fun z hz => by cases hz), ⟨i + 1, p6, c6, out ++ [X], by rw [e1], hlt, .inr hm, by rw [← e1]; omega, hsn.symm, by rw [← e1, e2]; exact ho6, h6, k05.fresh kg (fun k hk e => by have := own_ge hown5 e; omega)⟩, by simp only [Int.toNat_natCast]; omega⟩

/-! ### forget -/
def kpP (bf : Int) (x : En) : Bool := x.s.st == 0 || decide (x.s.de ≥ bf)
set_option maxHeartbeats 4000000 in
set_option maxRecDepth 100000 in
theorem xforget_any {w : World} {B m : Nat} {M : Mo} {P : Pl} (h : MoR w B m M P) (hel : M.es.length ≤ 1000000) (bf : Int) :
    Calls Tryz.prog 64 #[.pointer (some ⟨m, 0, none⟩), .int .i64 bf] w fun e w' => e = .returned (.int .i64 ((M.es.length : Int) - ((M.es.filter (kpP bf)).length : Nat))) ∧ (∃ P', MoR w' B m { M with es := M.es.filter (kpP bf) } P') ∧ Kp (MF w B) w w' := by
  have hBw : B ≤ w.heap.size := Nat.le_of_lt (Nat.lt_of_le_of_lt h.ge (block_lt h.st))
  refine vc_xforget m bf w _ ?_
  refine ⟨fun vs w' => ∃ (i : Nat) (p : Option Addr) (c : Nat) (out : List En), vs = [.int .i64 (i : Int), .slice p out.length c] ∧ i ≤ M.es.length ∧ out.length ≤ i ∧ out = (M.es.take i).filter (kpP bf) ∧ w'.ownsRow w.heap.size 91 72 (.slice p out.length c) out.length (out.flatMap enC) ∧ K0 w w',
    fun vs _ => (match vs with | .int _ a :: _ => M.es.length - a.toNat | _ => 0), ⟨0, none, 0, [], rfl, by omega, Nat.le_refl _, rfl, World.ownsRow_nil _ _ _ _, .refl _ _⟩, ?_⟩
  rintro x p n c w1 ⟨i, p', c', out, hv, hi, hol, hout, hown, k1⟩
  simp only [List.cons.injEq, Value.int.injEq, Value.slice.injEq, true_and, and_true] at hv
  obtain ⟨rfl, rfl, rfl, rfl⟩ := hv
  have h1 := h.k0 k1
  refine ⟨_, _, _, h1.cE, bsp_intro (fun hlt => ?_) (fun hge => ?_)⟩
  · have hlt : i < M.es.length := by simp at hlt; omega
    obtain ⟨y, b, o, hy, hp, hat⟩ := h1.rowE.get hlt
    rw [Int.toNat_natCast]
    have hst : w1.cell? ⟨b, o + i * 72 + 35, none⟩ = some (.int .i64 y.s.st) := hat.cell (j := 35) rfl
    have hde : w1.cell? ⟨b, o + i * 72 + 52, none⟩ = some (.int .i64 y.s.de) := hat.cell (j := 52) rfl
    have hsn : (M.es.take (i + 1)).filter (kpP bf) = out ++ (if kpP bf y = true then [y] else []) := by
      rw [take_snoc hy, List.filter_append, List.filter_cons, List.filter_nil, ← hout]
    refine ⟨_, _, _, h1.cE, nn_is hp ⟨⟨by omega, by omega⟩, y.s.st, hst, _, _, _, gimp_intro fun _ => h1.cE, nn_is hp ⟨gimp_intro fun _ => ⟨by omega, by omega⟩, y.s.de, gimp_intro fun _ => hde, ?_⟩⟩⟩
    have ec : (y.s.st == 0 || decide (y.s.de ≥ bf)) = kpP bf y := rfl
    rw [ec]
    refine bsp_intro (fun hb => ⟨_, _, _, h1.cE, nn_is hp ⟨⟨by omega, by omega⟩, y.s.id, y.s.g, y.s.tx, y.s.r, y.s.st, y.s.mo, y.s.de, y.s.rs, y.le, y.ho, y.si, hat, fun n5 W hW => ?_⟩⟩) (fun hb => ?_)
    · rw [if_pos hb] at hsn
      have kW : K0 w1 W := hW.kk rfl
      have e1 : out.length + 1 = (out ++ [y]).length := by simp
      have e2 : (out ++ [y]).flatMap enC = out.flatMap enC ++ enC y := by rw [List.flatMap_append]; simp [List.flatMap_cons]
      have hownW := owns_kp hown kW (fun _ _ h => h)
      refine ⟨w.heap.size, _, hownW, by omega, by omega, Nat.le_trans k1.size kW.size, fun p' c' w2 ho2 hg2 _ => ?_⟩
      have k2 : K0 w w2 := (k1.trans kW).fresh (kp_grown hg2) (fun j hj e => by have := own_ge hownW e; omega)
      rw [inc64 (by omega)]
      refine ⟨.of_kp (kp_grown hg2) (fun z hz => by cases hz), ⟨i + 1, p', c', out ++ [y], by rw [e1], hlt, by rw [← e1]; omega, hsn.symm, by rw [← e1, e2]; exact ho2, k2⟩, by simp only [Int.toNat_natCast]; omega⟩
    · rw [if_neg (by rw [hb]; decide), List.append_nil] at hsn
      rw [inc64 (by omega)]
      exact ⟨⟨i + 1, p, c, out, rfl, hlt, by omega, hsn.symm, hown, k1⟩, by simp only [Int.toNat_natCast]; omega⟩
  · have hi2 : i = M.es.length := by simp at hge; omega
    subst hi2
    rw [List.take_length] at hout
    rw [← hout]
    refine ⟨_, _, _, h1.cE, cell_wr h1.st (by show 0 + 3 < 4; omega), fun w2 p2 => ⟨.of_kp p2.kp (fun z hz => by cases hz), ?_⟩⟩
    obtain ⟨h2, k2⟩ := h1.newe (own_base hown hBw) p2
    rw [wr64 (by omega) (by omega)]
    exact ⟨rfl, ⟨_, h2⟩, (Kp.mf0 k1).mft k2⟩

end Go.Proofs.YtfacflbmlfbeeaaGreatDoor

/- Chapter 39, plain: the module's queue and the reference's say the same. No program in sight but in the definitions. -/
namespace Go.Proofs.YtfacflbmlfbeeaaGreatDoor
open Go.RowKit Go.Sort Go.Maps

/-! ### A name is known by its parts -/
theorem ext8 {s t : ByteArray} (hs : s.size = t.size) (h : ∀ j, j < s.size → at8 s j = at8 t j) : s = t := ba_eq (List.ext_getElem? fun j => by
  rcases Nat.lt_or_ge j s.size with hj | hj
  · rw [at8_byte hj, at8_byte (by omega), h j hj]
  · rw [List.getElem?_eq_none (by simpa using hj), List.getElem?_eq_none (by rw [hs] at hj; simpa using hj)])
theorem partsD_ne (s : ByteArray) : partsD s ≠ [] := fun e => by
  have h := partsD_len (s := s)
  rw [e] at h; simp at h
theorem partsD_inj : ∀ (n : Nat) (s t : ByteArray), s.size ≤ n → partsD s = partsD t → s = t
  | n, s, t, hn, h => by
    have fs := findC_first 46 s
    have ft := findC_first 46 t
    by_cases hi : findC 46 s < s.size
    · by_cases hj : findC 46 t < t.size
      · rw [partsD_hit fs hi, partsD_hit ft hj] at h
        obtain ⟨h1, h2⟩ := List.cons.inj h
        cases n with
        | zero => omega
        | succ n =>
          have hz : (s.extract (findC 46 s + 1) s.size).size = s.size - (findC 46 s + 1) := by rw [ByteArray.size_extract]; omega
          have hz2 : (t.extract (findC 46 t + 1) t.size).size = t.size - (findC 46 t + 1) := by rw [ByteArray.size_extract]; omega
          have h3 := partsD_inj n _ _ (by omega) h2
          have z1 : (s.extract 0 (findC 46 s)).size = findC 46 s := by rw [ByteArray.size_extract]; omega
          have z2 : (t.extract 0 (findC 46 t)).size = findC 46 t := by rw [ByteArray.size_extract]; omega
          have ez : findC 46 s = findC 46 t := by rw [← z1, h1, z2]
          have e3 : s.size = t.size := by rw [h3] at hz; omega
          refine ext8 e3 fun j hj2 => ?_
          rcases Nat.lt_trichotomy j (findC 46 s) with hl | hl | hl
          · have a1 := at8_extract s 0 (findC 46 s) j (by omega) (by omega)
            have a2 := at8_extract t 0 (findC 46 t) j (by omega) (by omega)
            rw [Nat.zero_add] at a1 a2
            rw [← a1, ← a2, h1]
          · rw [hl, fs.2.2.2 hi, ez, ft.2.2.2 hj]
          · have a1 := at8_extract s (findC 46 s + 1) s.size (j - (findC 46 s + 1)) (by omega) (Nat.le_refl _)
            have a2 := at8_extract t (findC 46 t + 1) t.size (j - (findC 46 t + 1)) (by omega) (Nat.le_refl _)
            rw [show findC 46 s + 1 + (j - (findC 46 s + 1)) = j by omega] at a1
            rw [show findC 46 t + 1 + (j - (findC 46 t + 1)) = j by omega] at a2
            rw [← a1, ← a2, h3, ez]
      · rw [partsD_hit fs hi, partsD_miss ft hj] at h
        exact absurd (List.cons.inj h).2 (partsD_ne _)
    · by_cases hj : findC 46 t < t.size
      · rw [partsD_miss fs hi, partsD_hit ft hj] at h
        exact absurd (List.cons.inj h).2.symm (partsD_ne _)
      · rw [partsD_miss fs hi, partsD_miss ft hj] at h
        exact (List.cons.inj h).1
theorem ky_eq {x y : Sb} (hx : BY x.id) (hy : BY y.id) (h : cfM x y = 0) : x.ky = y.ky := by
  unfold cfM at h
  split at h
  · contradiction
  · unfold cfI at h
    split at h
    · contradiction
    · rename_i h1
      have e1 : idB x.id = idB y.id := cb_zero _ _ (by simpa using h1)
      have e2 : x.g = y.g := partsD_inj _ _ _ (Nat.le_refl _) (lsC_zero _ _ h)
      unfold Sb.ky
      rw [idB_inj39 hx hy e1, e2]

/-! ### Lists with different keys -/
theorem perm_uniq39 {α : Type} {R : α → α → Prop} : ∀ {l1 l2 : List α}, l1.Perm l2 → l1.Pairwise R → l2.Pairwise R → (∀ a ∈ l1, ∀ b ∈ l1, R a b → R b a → a = b) → l1 = l2
  | [], l2, hp, _, _, _ => (List.nil_perm.1 hp).symm
  | a :: r, [], hp, _, _, _ => by have := hp.length_eq; simp at this
  | a :: r, b :: s, hp, h1, h2, anti => by
    have hab : a = b := Classical.byContradiction fun hne => by
      have h3 : a ∈ s := by
        rcases List.mem_cons.1 (hp.subset List.mem_cons_self) with h | h
        · exact absurd h hne
        · exact h
      have h4 : b ∈ r := by
        rcases List.mem_cons.1 (hp.symm.subset List.mem_cons_self) with h | h
        · exact absurd h.symm hne
        · exact h
      exact hne (anti a List.mem_cons_self b (List.mem_cons_of_mem _ h4) ((List.pairwise_cons.1 h1).1 b h4) ((List.pairwise_cons.1 h2).1 a h3))
    subst hab
    rw [perm_uniq39 (List.Perm.cons_inv hp) (List.pairwise_cons.1 h1).2 (List.pairwise_cons.1 h2).2 fun x hx y hy => anti x (List.mem_cons_of_mem _ hx) y (List.mem_cons_of_mem _ hy)]
def fdL (es : List En) (k : Ky) : Option En := es.find? fun y => decide (y.s.ky = k)
theorem fd_iff {es : List En} (hd : DisK es) {k : Ky} {e : En} : fdL es k = some e ↔ e ∈ es ∧ e.s.ky = k := by
  constructor
  · intro h
    exact ⟨List.mem_of_find?_eq_some h, by simpa using List.find?_some h⟩
  · rintro ⟨hm, hk⟩
    obtain ⟨i, hi⟩ := List.mem_iff_getElem?.1 hm
    exact dis_fd hd hi hk
theorem ag_iff {β : Type} {l : List (Ky × β)} (hd : l.Pairwise fun p q => p.1 ≠ q.1) {k : Ky} {e : β} : aget l k = some e ↔ (k, e) ∈ l := ⟨aget_mem, aget_at hd⟩
theorem opt_ext {α : Type} {a b : Option α} (h : ∀ e, a = some e ↔ b = some e) : a = b := by
  cases a with
  | none => cases b with
    | none => rfl
    | some y => exact ((h y).2 rfl)
  | some x => exact ((h x).1 rfl).symm
theorem ag_perm {l m : List (Ky × En)} (hl : l.Pairwise fun p q => p.1 ≠ q.1) (hm : m.Pairwise fun p q => p.1 ≠ q.1) (h : ∀ k, aget l k = aget m k) : l.Perm m := by
  have n1 : l.Nodup := hl.imp fun h e => h (by rw [e])
  have n2 : m.Nodup := hm.imp fun h e => h (by rw [e])
  refine (List.perm_ext_iff_of_nodup n1 n2).2 fun ⟨k, e⟩ => ?_
  rw [← ag_iff hl, ← ag_iff hm, h]
def prL (es : List En) : List (Ky × En) := es.map fun x => (x.s.ky, x)
theorem pr_dis {es : List En} (h : DisK es) : (prL es).Pairwise fun p q => p.1 ≠ q.1 := List.pairwise_map.2 h
theorem pr_get {es : List En} (h : DisK es) (k : Ky) : aget (prL es) k = fdL es k := opt_ext fun e => by
  rw [ag_iff (pr_dis h), fd_iff h]
  unfold prL
  constructor
  · intro hm
    obtain ⟨x, hx, e1⟩ := List.mem_map.1 hm
    cases e1
    exact ⟨hx, rfl⟩
  · rintro ⟨hx, rfl⟩
    exact List.mem_map.2 ⟨e, hx, rfl⟩

theorem pw_get {α : Type} {R : α → α → Prop} {l : List α} (h : l.Pairwise R) {i j : Nat} {x y : α} (hx : l[i]? = some x) (hy : l[j]? = some y) (hij : i < j) : R x y := by
  obtain ⟨hi, rfl⟩ := List.getElem?_eq_some_iff.1 hx
  obtain ⟨hj, rfl⟩ := List.getElem?_eq_some_iff.1 hy
  exact List.pairwise_iff_getElem.1 h i j hi hj hij

/-! ### The two queues -/
structure Rq (n : Nat) (q : Qu) (M : Mo) : Prop where
  qo : q.OK
  room : M.room = q.room
  days : M.days = q.days
  qd : q.es.Pairwise fun p r => p.1 ≠ r.1
  dis : DisK M.es
  fd : ∀ k, fdL M.es k = aget q.es k
  srt : M.es.Pairwise fun x y => cfM x.s y.s < 0
  ms : ∀ g, (q.md g).l = (M.md g).l
  gs : ∀ y ∈ M.gs, (∀ z ∈ y.x.l, BY z ∧ NZ 16 z) ∧ y.x.l.length ≤ 8
  gl : M.gs.length ≤ n
  el : M.es.length ≤ n
  le : ∀ x ∈ M.es, x.le = true → x.s.st = 0
theorem Rq.mono {n m : Nat} {q : Qu} {M : Mo} (h : Rq n q M) (hnm : n ≤ m) : Rq m q M := { h with gl := Nat.le_trans h.gl hnm, el := Nat.le_trans h.el hnm }
theorem Rq.perm {n : Nat} {q : Qu} {M : Mo} (h : Rq n q M) : q.es.Perm (prL M.es) := ag_perm h.qd (pr_dis h.dis) fun k => by rw [pr_get h.dis, h.fd]
theorem Rq.ql {n : Nat} {q : Qu} {M : Mo} (h : Rq n q M) : q.es.length ≤ n := by have := h.perm.length_eq; unfold prL at this; rw [List.length_map] at this; have := h.el; omega
theorem Rq.get {n : Nat} {q : Qu} {M : Mo} (h : Rq n q M) {x : En} (hx : x ∈ M.es) : aget q.es x.s.ky = some x := by rw [← h.fd, fd_iff h.dis]; exact ⟨hx, rfl⟩
theorem Rq.mo {n : Nat} {q : Qu} {M : Mo} (h : Rq n q M) (hn : n ≤ 100000) : M.OK where
  days := by rw [h.days]; exact h.qo.days
  el := Nat.le_trans h.el hn
  gl := Nat.le_trans h.gl hn
  es := fun y hy => by
    have := h.qo.es _ _ (h.get hy)
    exact ⟨this.1, Nat.le_trans (gnE_sz39 this.2.2.1) (by omega)⟩
  dis := h.dis
  gs := h.gs
theorem Rq.sel {n : Nat} {q : Qu} {M : Mo} (h : Rq n q M) (P : En → Bool) : (selE P q.es).Perm ((M.es.filter P).map (·.s)) := by
  unfold selE
  have h1 := (h.perm.filter fun p => P p.2).map (·.2.s)
  have e : ((prL M.es).filter fun p => P p.2).map (·.2.s) = (M.es.filter P).map (·.s) := by
    unfold prL
    rw [List.filter_map, List.map_map]
    rfl
  rw [e] at h1
  exact h1
theorem srt_tot {es : List En} (h : es.Pairwise fun x y => cfM x.s y.s < 0) {x y : En} (hx : x ∈ es) (hy : y ∈ es) (h1 : ¬ cfM x.s y.s < 0) (h2 : ¬ cfM y.s x.s < 0) : x = y := by
  obtain ⟨i, hi⟩ := List.mem_iff_getElem?.1 hx
  obtain ⟨j, hj⟩ := List.mem_iff_getElem?.1 hy
  rcases Nat.lt_trichotomy i j with hl | hl | hl
  · exact absurd (pw_get h hi hj hl) h1
  · subst hl; rw [hi] at hj; cases hj; rfl
  · exact absurd (pw_get h hj hi hl) h2
theorem Rq.uniq {n : Nat} {q : Qu} {M : Mo} (h : Rq n q M) {P : En → Bool} {l : List Sb} (hp : l.Perm (selE P q.es)) (hs : l.Pairwise fun x y => ¬ cfM y x < 0) : l = (M.es.filter P).map (·.s) := by
  have hp2 := hp.trans (h.sel P)
  have hsub : ∀ a ∈ l, ∃ x ∈ M.es, x.s = a := fun a ha => by
    obtain ⟨x, hx, e⟩ := List.mem_map.1 (hp2.subset ha)
    exact ⟨x, (List.mem_filter.1 hx).1, e⟩
  refine perm_uniq39 (R := fun x y => ¬ cfM y x < 0) hp2 hs ?_ ?_
  · refine List.pairwise_map.2 ((h.srt.sublist List.filter_sublist).imp fun {a b} hab hc => ?_)
    have := cfM_ord.anti a.s b.s
    omega
  · intro a ha b hb h1 h2
    obtain ⟨x, hx, rfl⟩ := hsub a ha
    obtain ⟨y, hy, rfl⟩ := hsub b hb
    rw [srt_tot h.srt hx hy h2 h1]
theorem Rq.any {n : Nat} {q : Qu} {M : Mo} (h : Rq n q M) {x y : En} (hx : x ∈ M.es) (hy : y ∈ M.es) (e : x.s = y.s) : x = y := by
  have h1 := h.get hx
  have h2 := h.get hy
  rw [e, h2] at h1
  cases h1; rfl
theorem Rq.ism {n : Nat} {q : Qu} {M : Mo} (h : Rq n q M) (g : ByteArray) (a : Nat → Int) : isMB (q.md g) a = isMB (M.md g) a := by unfold isMB; rw [h.ms]
theorem Rq.wt {n : Nat} {q : Qu} {M : Mo} (h : Rq n q M) : q.wt = ((M.ls ⟨#[]⟩ 0).length : Nat) := by
  rw [h.qo.wt]
  have h1 := (h.sel (lsP ⟨#[]⟩ 0)).length_eq
  unfold Mo.ls
  rw [← h1]
  unfold selE
  rw [List.length_map]
  have : (fun p : Ky × En => lsP ⟨#[]⟩ 0 p.2) = fun p => p.2.s.st == 0 := by
    funext p
    unfold lsP
    simp
  rw [this]

end Go.Proofs.YtfacflbmlfbeeaaGreatDoor

/- Chapter 39, plain: each operation keeps the two queues alike. -/
namespace Go.Proofs.YtfacflbmlfbeeaaGreatDoor
open Go.RowKit Go.Sort Go.Maps

theorem idB_of {f g : Nat → Int} (h : idI f = idI g) : idB f = idB g := congrArg (List.map fun x : Int => x.toNat.toUInt8) h
theorem cfM_congr {x x' y y' : Sb} (hx : x.ky = x'.ky) (hxr : x.r = x'.r) (hy : y.ky = y'.ky) (hyr : y.r = y'.r) : cfM x y = cfM x' y' := by
  unfold Sb.ky at hx hy
  obtain ⟨a1, a2⟩ := Prod.mk.inj hx
  obtain ⟨b1, b2⟩ := Prod.mk.inj hy
  unfold cfM cfT cfI
  rw [hxr, hyr, a2, b2, idB_of a1, idB_of b1]
theorem Rq.map {n : Nat} {q q' : Qu} {M : Mo} (h : Rq n q M) {G : En → En} (hG : ∀ y ∈ M.es, (G y).s.ky = y.s.ky ∧ (G y).s.r = y.s.r ∧ ((G y).le = true → (G y).s.st = 0)) (ho : q'.OK) (hr : q'.room = q.room) (hd : q'.days = q.days) (hm : q'.ms = q.ms)
    (hqd : q'.es.Pairwise fun p r => p.1 ≠ r.1) (hes : ∀ k, aget q'.es k = (aget q.es k).map G) : Rq n q' { M with es := M.es.map G } := by
  have hdis : DisK (M.es.map G) := List.pairwise_map.2 (h.dis.imp_of_mem fun {a b} ha hb hab e => hab (by rw [← (hG a ha).1, ← (hG b hb).1]; exact e))
  exact {
    qo := ho
    room := by rw [hr]; exact h.room
    days := by rw [hd]; exact h.days
    qd := hqd
    dis := hdis
    fd := fun k => opt_ext fun e => by
      rw [hes k, fd_iff hdis, ← h.fd k]
      constructor
      · rintro ⟨he, hk⟩
        obtain ⟨x, hx, rfl⟩ := List.mem_map.1 he
        rw [(hG x hx).1] at hk
        rw [(fd_iff h.dis).2 ⟨hx, hk⟩]; rfl
      · intro he
        obtain ⟨x, hx, rfl⟩ := Option.map_eq_some_iff.1 he
        obtain ⟨h1, h2⟩ := (fd_iff h.dis).1 hx
        exact ⟨List.mem_map.2 ⟨x, h1, rfl⟩, by rw [(hG x h1).1]; exact h2⟩
    srt := List.pairwise_map.2 (h.srt.imp_of_mem fun {a b} ha hb hab => by
      rw [cfM_congr (hG a ha).1 (hG a ha).2.1 (hG b hb).1 (hG b hb).2.1]; exact hab)
    ms := fun g => by
      have : q'.md g = q.md g := by unfold Qu.md; rw [hm]
      rw [this]; exact h.ms g
    gs := h.gs
    gl := h.gl
    el := by show (M.es.map G).length ≤ n; rw [List.length_map]; exact h.el
    le := fun x hx hl => by
      obtain ⟨y, hy, rfl⟩ := List.mem_map.1 hx
      exact (hG y hy).2.2 hl }
theorem Rq.up {n : Nat} {q : Qu} {M : Mo} (h : Rq n q M) {k : Ky} {u v : En} {f : En → En} {wt : Int} (hu : aget q.es k = some u) (hf : f u = v) (hky : v.s.ky = u.s.ky) (hr : v.s.r = u.s.r) (hle : v.le = true → v.s.st = 0) (hq : ({ q with es := aset q.es k v, wt := wt } : Qu).OK) :
    Rq n { q with es := aset q.es k v, wt := wt } (M.up k f) := by
  have huk : u.s.ky = k := ((fd_iff h.dis).1 ((h.fd k).trans hu)).2
  have hy1 : ∀ y ∈ M.es, y.s.ky = k → y = u := fun y hy e => by
    have := h.get hy
    rw [e, hu] at this
    cases this; rfl
  refine h.map (G := fun y => if y.s.ky = k then f y else y) (fun y hy => ?_) hq rfl rfl rfl (aset_dis h.qd k v) (fun c => ?_)
  · split
    · rename_i e
      cases hy1 y hy e
      rw [hf]
      exact ⟨hky, hr, hle⟩
    · exact ⟨rfl, rfl, h.le y hy⟩
  · show aget (aset q.es k v) c = _
    rw [aget_aset]
    split
    · rename_i e
      subst e
      rw [hu]
      show _ = some (if u.s.ky = k then f u else u)
      rw [if_pos huk, hf]
    · rename_i e
      cases hc : aget q.es c with
      | none => rfl
      | some x =>
        have := ((fd_iff h.dis).1 ((h.fd c).trans hc)).2
        show some x = some (if x.s.ky = k then f x else x)
        rw [if_neg (fun e2 => e (by rw [← e2, this]))]
theorem Rq.filt {n : Nat} {q q' : Qu} {M : Mo} (h : Rq n q M) {P : En → Bool} (ho : q'.OK) (hr : q'.room = q.room) (hd : q'.days = q.days) (hm : q'.ms = q.ms)
    (hqd : q'.es.Pairwise fun p r => p.1 ≠ r.1) (hes : ∀ k, aget q'.es k = (aget q.es k).filter P) : Rq n q' { M with es := M.es.filter P } := by
  have hdis : DisK (M.es.filter P) := h.dis.sublist List.filter_sublist
  exact {
    qo := ho
    room := by rw [hr]; exact h.room
    days := by rw [hd]; exact h.days
    qd := hqd
    dis := hdis
    fd := fun k => opt_ext fun e => by
      rw [hes k, fd_iff hdis, ← h.fd k, List.mem_filter, Option.filter_eq_some_iff, fd_iff h.dis]
      constructor
      · rintro ⟨⟨a, b⟩, c⟩; exact ⟨⟨a, c⟩, b⟩
      · rintro ⟨⟨a, c⟩, b⟩; exact ⟨⟨a, b⟩, c⟩
    srt := h.srt.sublist List.filter_sublist
    ms := fun g => by
      have : q'.md g = q.md g := by unfold Qu.md; rw [hm]
      rw [this]; exact h.ms g
    gs := h.gs
    gl := h.gl
    el := Nat.le_trans (List.length_filter_le _ _) h.el
    le := fun x hx hl => h.le x (List.mem_filter.1 hx).1 hl }

/-! ### Submit -/
theorem cfE_ord : Ord3 fun x y : En => cfM x.s y.s := ⟨fun _ _ => cfM_ord.anti _ _, fun _ _ _ => cfM_ord.tlt _ _ _, fun _ _ _ => cfM_ord.el _ _ _, fun _ _ _ => cfM_ord.le _ _ _⟩
def xsubE (M : Mo) (id : Nat → Int) (g tx : ByteArray) (now : Int) : Int := if minB now = false then 2 else if gnE g ≠ 0 then gnE g else if 65536 < tx.size then 5 else if (M.md g).l.length = 0 then 33 else if (M.fd (idI id, g)).isSome = true then 7 else if M.room ≤ ((M.ls ⟨#[]⟩ 0).length : Nat) then 9 else 0
theorem Rq.subE {n : Nat} {q : Qu} {M : Mo} (h : Rq n q M) (id : Nat → Int) (g tx : ByteArray) (now : Int) : subE q id g tx now = xsubE M id g tx now := by
  unfold Go.Proofs.YtfacflbmlfbeeaaGreatDoor.subE xsubE
  have e : M.fd (idI id, g) = aget q.es (idI id, g) := h.fd _
  rw [e, h.ms, h.room, ← h.wt]
theorem Rq.ins {n : Nat} {q : Qu} {M : Mo} (h : Rq n q M) {id : Nat → Int} {g tx : ByteArray} {now : Int} (hid : BY id ∧ NZ 32 id) {L : List En} (h0 : xsubE M id g tx now = 0)
    (hp : L.Perm (newE id g tx now :: M.es)) (hs : L.Pairwise fun x y => cfM x.s y.s < 0) : Rq (n + 1) (subQ q id g tx now) { M with es := L } := by
  have h0q := (h.subE id g tx now).trans h0
  have hok := h.qo.sub (g := g) (tx := tx) (now := now) hid
  have hno : aget q.es (idI id, g) = none := by
    unfold Go.Proofs.YtfacflbmlfbeeaaGreatDoor.subE at h0q
    repeat' (split at h0q; · first | contradiction | omega)
    rename_i h7 _
    cases ha : aget q.es (idI id, g) with
    | none => rfl
    | some x => rw [ha] at h7; exact absurd rfl h7
  have eq : subQ q id g tx now = { q with es := aset q.es (idI id, g) (newE id g tx now), wt := q.wt + 1 } := by unfold subQ; rw [if_pos h0q]
  have hky : (newE id g tx now).s.ky = (idI id, g) := rfl
  have hnk : ∀ y ∈ M.es, y.s.ky ≠ (idI id, g) := fun y hy e => by
    have := h.get hy
    rw [e, hno] at this; cases this
  have hdis : DisK L := by
    refine (hp.pairwise_iff (R := fun x y : En => x.s.ky ≠ y.s.ky) (fun {a b} hab e => hab e.symm)).2 (List.pairwise_cons.2 ⟨fun y hy e => hnk y hy (by rw [← e]; exact hky), h.dis⟩)
  rw [eq] at hok ⊢
  exact {
    qo := hok
    room := h.room
    days := h.days
    qd := aset_dis h.qd _ _
    dis := hdis
    fd := fun k => opt_ext fun e => by
      show fdL L k = some e ↔ aget (aset q.es (idI id, g) (newE id g tx now)) k = some e
      rw [fd_iff hdis, aget_aset, hp.mem_iff, List.mem_cons]
      by_cases hk : (idI id, g) = k
      · rw [if_pos hk]
        subst hk
        constructor
        · rintro ⟨rfl | hm, he⟩
          · rfl
          · exact absurd he (hnk e hm)
        · intro he; cases he; exact ⟨.inl rfl, rfl⟩
      · rw [if_neg hk, ← h.fd k, fd_iff h.dis]
        constructor
        · rintro ⟨rfl | hm, he⟩
          · exact absurd he hk
          · exact ⟨hm, he⟩
        · rintro ⟨hm, he⟩; exact ⟨.inr hm, he⟩
    srt := hs
    ms := h.ms
    gs := h.gs
    gl := Nat.le_succ_of_le h.gl
    el := by show L.length ≤ n + 1; rw [hp.length_eq, List.length_cons]; have := h.el; omega
    le := fun x hx hl => by
      rcases List.mem_cons.1 (hp.subset hx) with rfl | hx
      · cases hl
      · exact h.le x hx hl }
theorem Rq.sub_no {n : Nat} {q : Qu} {M : Mo} (h : Rq n q M) {id : Nat → Int} {g tx : ByteArray} {now : Int} (h0 : xsubE M id g tx now ≠ 0) : Rq (n + 1) (subQ q id g tx now) M := by
  have h0q : Go.Proofs.YtfacflbmlfbeeaaGreatDoor.subE q id g tx now ≠ 0 := by rw [h.subE]; exact h0
  have : subQ q id g tx now = q := by unfold subQ; rw [if_neg h0q]
  rw [this]
  exact h.mono (by omega)

/-! ### Claim -/
theorem Rq.clE {n : Nat} {q : Qu} {M : Mo} (h : Rq n q M) (g : ByteArray) (a : Nat → Int) (now : Int) : clmE q g a now = xclE M g a now := by
  unfold clmE xclE
  rw [h.ism]
  have h1 := (h.sel (clP g (auI a) now)).length_eq
  have e : (isSel q g (auI a) now).length = ((M.es.filter (clP g (auI a) now)).map (·.s)).length := h1
  rw [e, List.length_map]
  cases hf : M.es.find? (clP g (auI a) now) with
  | none =>
    have : M.es.filter (clP g (auI a) now) = [] := List.filter_eq_nil_iff.2 fun x hx hc => by
      have := List.find?_eq_none.1 hf x hx
      rw [hc] at this; exact this rfl
    rw [this]
    simp
  | some x =>
    have hm := List.mem_of_find?_eq_some hf
    have hx := List.find?_some hf
    have h0 : (M.es.filter (clP g (auI a) now)).length ≠ 0 := fun e => by
      have := List.eq_nil_of_length_eq_zero e
      have hmm := List.mem_filter.2 ⟨hm, hx⟩
      rw [this] at hmm; cases hmm
    rw [if_neg (c := (M.es.filter (clP g (auI a) now)).length = 0) h0]
theorem find_first {α : Type} {P : α → Bool} : ∀ {l : List α} {x : α}, l.find? P = some x → ∃ t, l.filter P = x :: t
  | a :: l, x, h => by
    rw [List.find?_cons] at h
    rw [List.filter_cons]
    split at h
    · rename_i hp
      cases h
      rw [if_pos hp]; exact ⟨_, rfl⟩
    · rename_i hp
      rw [if_neg (by rw [hp]; decide)]
      exact find_first h
theorem Rq.clm {n : Nat} {q : Qu} {M : Mo} (h : Rq n q M) {g : ByteArray} {a : Nat → Int} (ha : BY a ∧ NZ 16 a) {now : Int} (h0 : xclE M g a now = 0) {x : Sb} (hx : x ∈ isSel q g (auI a) now) (hmin : ∀ y ∈ isSel q g (auI a) now, ¬ cfM y x < 0) :
    x = xclS M g a now ∧ Rq n { q with es := aset q.es x.ky ⟨x, true, a, now⟩ } (xclM M g a now) := by
  have hmn : minB now = true := by
    unfold xclE at h0
    split at h0
    · cases h0
    · rename_i h1; simpa using h1
  have hn := minB_iff.1 hmn
  cases hf : M.es.find? (clP g (auI a) now) with
  | none =>
    unfold xclE at h0
    rw [hf, if_neg (by rw [hmn]; decide)] at h0
    split at h0 <;> cases h0
  | some e =>
    have eS : xclS M g a now = e.s := by unfold xclS; rw [if_pos h0, hf]; rfl
    have em := List.mem_of_find?_eq_some hf
    have ep := List.find?_some hf
    obtain ⟨t, ht⟩ := find_first hf
    have hsel := h.sel (clP g (auI a) now)
    rw [ht] at hsel
    have hxe : x = e.s := by
      have h1 : x ∈ (e :: t).map (·.s) := hsel.subset hx
      obtain ⟨y, hy, rfl⟩ := List.mem_map.1 h1
      rcases List.mem_cons.1 hy with rfl | hy
      · rfl
      · have hs2 : (e :: t).Pairwise fun x y => cfM x.s y.s < 0 := by rw [← ht]; exact h.srt.sublist List.filter_sublist
        exact absurd ((List.pairwise_cons.1 hs2).1 y hy) (hmin e.s (hsel.symm.subset (List.mem_map.2 ⟨e, List.mem_cons_self, rfl⟩)))
    subst hxe
    refine ⟨eS.symm, ?_⟩
    have hst : e.s.st = 0 := by unfold clP at ep; simp at ep; exact ep.1.2
    have eM : xclM M g a now = M.up e.s.ky (fun y => ⟨y.s, true, a, now⟩) := by unfold xclM; rw [if_pos h0, eS]
    rw [eM]
    exact h.up (f := fun y => ⟨y.s, true, a, now⟩) (v := ⟨e.s, true, a, now⟩) (h.get em) rfl rfl rfl (fun _ => hst) (h.qo.clm h.qd hx ha hn)

/-! ### Release -/
theorem Rq.en {n : Nat} {q : Qu} {M : Mo} (h : Rq n q M) (k : Ky) : M.fd k = aget q.es k := h.fd k
theorem en_some {q : Qu} {k : Ky} {u : En} (h : aget q.es k = some u) : q.en k = u := by unfold Qu.en; rw [h]; rfl
theorem Rq.rlE {n : Nat} {q : Qu} {M : Mo} (h : Rq n q M) (id : Nat → Int) (g : ByteArray) (a : Nat → Int) (now : Int) : relE q id g a now = xrlE M (idI id, g) a now := by
  unfold relE xrlE
  rw [h.en]
  cases hg : aget q.es (idI id, g) with
  | none => simp
  | some u => rw [en_some hg]; simp
theorem Rq.rel {n : Nat} {q : Qu} {M : Mo} (h : Rq n q M) (id : Nat → Int) (g : ByteArray) (a : Nat → Int) (now : Int) : Rq n (relQ q id g a now) (xrlM M (idI id, g) a now) := by
  unfold relQ xrlM
  rw [← h.rlE]
  split
  · rename_i h0
    unfold relE at h0
    split at h0
    · cases h0
    split at h0
    · cases h0
    rename_i hc
    rw [not_or] at hc
    cases hg : aget q.es (idI id, g) with
    | none => rw [hg] at hc; exact absurd rfl hc.1
    | some u =>
      rw [en_some hg] at hc ⊢
      have ho := h.qo.es _ _ hg
      exact h.up (wt := q.wt) (f := fun y => plainE y.s) (v := plainE u.s) hg rfl rfl rfl (fun hl => by cases hl) (h.qo.put (v := plainE u.s) hg rfl ⟨⟨ho.1.s, by0, fun _ _ => rfl, ⟨by show (0 : Int) ≤ 0; decide, by show (0 : Int) ≤ _; decide⟩⟩, ho.2⟩)
  · exact h

/-! ### Decide -/
noncomputable def xdcE (M : Mo) (id : Nat → Int) (g : ByteArray) (a : Nat → Int) (st : Int) (rs : ByteArray) (now : Int) : Int :=
  if minB now = false then 2 else if st = 2 ∧ 200 < rs.size then 5 else if st = 2 ∧ prtB rs = false then 6 else if isMB (M.md g) a = false then 20 else match M.fd (idI id, g) with
  | none => 8
  | some y => if y.s.st ≠ 0 then 10 else if blk y (auI a) now = true then 25 else 0
noncomputable def xdcM (M : Mo) (id : Nat → Int) (g : ByteArray) (a : Nat → Int) (st : Int) (rs : ByteArray) (now : Int) : Mo := if xdcE M id g a st rs now = 0 then M.up (idI id, g) (fun y => plainE (finS39 y.s a now st rs)) else M
theorem Rq.dcE {n : Nat} {q : Qu} {M : Mo} (h : Rq n q M) (id : Nat → Int) (g : ByteArray) (a : Nat → Int) (st : Int) (rs : ByteArray) (now : Int) : xdcE M id g a st rs now = if minB now = false then 2 else if st = 2 ∧ 200 < rs.size then 5 else if st = 2 ∧ prtB rs = false then 6 else decE q id g a now := by
  unfold xdcE decE
  rw [h.en, h.ism]
  cases hg : aget q.es (idI id, g) with
  | none => simp
  | some u => rw [en_some hg]; simp
theorem Rq.apE {n : Nat} {q : Qu} {M : Mo} (h : Rq n q M) (id : Nat → Int) (g : ByteArray) (a : Nat → Int) (now : Int) : apE q id g a now = xdcE M id g a 1 ⟨#[]⟩ now := by
  rw [h.dcE]
  unfold Go.Proofs.YtfacflbmlfbeeaaGreatDoor.apE
  simp
theorem Rq.rjE {n : Nat} {q : Qu} {M : Mo} (h : Rq n q M) (id : Nat → Int) (g : ByteArray) (a : Nat → Int) (rs : ByteArray) (now : Int) : rejE q id g a rs now = xdcE M id g a 2 rs now := by
  rw [h.dcE]
  unfold rejE
  simp
theorem Rq.dec {n : Nat} {q : Qu} {M : Mo} (h : Rq n q M) {id : Nat → Int} {g : ByteArray} {a : Nat → Int} (ha : BY a ∧ NZ 16 a) {st : Int} (hst : 1 ≤ st ∧ st ≤ 3) {rs : ByteArray} (hr : rs.size ≤ 200) {now : Int} (h0 : xdcE M id g a st rs now = 0) :
    Rq n (decQ q id g a now st rs) (M.up (idI id, g) (fun y => plainE (finS39 y.s a now st rs))) := by
  have h0' := h0
  rw [h.dcE] at h0'
  have hmn : minB now = true := by
    split at h0'
    · cases h0'
    · rename_i h1; simpa using h1
  have hn := minB_iff.1 hmn
  have hd : decE q id g a now = 0 := by
    repeat' (split at h0'; · cases h0')
    exact h0'
  unfold decQ
  rw [if_pos hd]
  have hd' := hd
  unfold decE at hd'
  split at hd'
  · cases hd'
  split at hd'
  · cases hd'
  rename_i h8
  split at hd'
  · cases hd'
  rename_i h10
  cases hg : aget q.es (idI id, g) with
  | none => rw [hg] at h8; exact absurd rfl h8
  | some u =>
    rw [en_some hg] at h10 ⊢
    have hs0 : u.s.st = 0 := by simpa using h10
    have hk : u.s.ky = (idI id, g) := ((h.qo.es _ _ hg).2.1).symm
    have hf := h.qo.fin hg hs0 ha hn hst hr
    have e : finQ q (finS39 u.s a now st rs) = { q with es := aset q.es (idI id, g) (plainE (finS39 u.s a now st rs)), wt := q.wt - 1 } := by
      unfold finQ
      have : (finS39 u.s a now st rs).ky = u.s.ky := rfl
      rw [this, hk]
    rw [e] at hf ⊢
    exact h.up (f := fun y => plainE (finS39 y.s a now st rs)) (v := plainE (finS39 u.s a now st rs)) hg rfl rfl rfl (fun hl => by cases hl) hf
theorem Rq.ap {n : Nat} {q : Qu} {M : Mo} (h : Rq n q M) {id : Nat → Int} {g : ByteArray} {a : Nat → Int} (ha : BY a ∧ NZ 16 a) {now : Int} : Rq n (apQ q id g a now 1 ⟨#[]⟩) (xdcM M id g a 1 ⟨#[]⟩ now) := by
  unfold xdcM apQ
  split
  · rename_i h1
    have : xdcE M id g a 1 ⟨#[]⟩ now = 2 := by unfold xdcE; rw [if_pos h1]
    rw [this]
    exact h
  · rename_i h1
    split
    · rename_i h0
      exact h.dec ha ⟨by decide, by decide⟩ (by decide) h0
    · rename_i h0
      have : decE q id g a now ≠ 0 := fun e => h0 (by rw [h.dcE, if_neg h1, if_neg (by simp), if_neg (by simp)]; exact e)
      unfold decQ
      rw [if_neg this]; exact h
theorem Rq.rj {n : Nat} {q : Qu} {M : Mo} (h : Rq n q M) {id : Nat → Int} {g : ByteArray} {a : Nat → Int} (ha : BY a ∧ NZ 16 a) {rs : ByteArray} {now : Int} : Rq n (rejQ q id g a rs now) (xdcM M id g a 2 rs now) := by
  unfold xdcM rejQ
  by_cases h1 : minB now = false
  · rw [if_pos h1, if_neg (by unfold xdcE; rw [if_pos h1]; decide)]; exact h
  rw [if_neg h1]
  by_cases h2 : 200 < rs.size
  · rw [if_pos h2, if_neg (by unfold xdcE; rw [if_neg h1, if_pos ⟨rfl, h2⟩]; decide)]; exact h
  rw [if_neg h2]
  by_cases h3 : prtB rs = false
  · rw [if_pos h3, if_neg (by unfold xdcE; rw [if_neg h1, if_neg (fun e => h2 e.2), if_pos ⟨rfl, h3⟩]; decide)]; exact h
  rw [if_neg h3]
  split
  · rename_i h0
    exact h.dec ha ⟨by decide, by decide⟩ (by omega) h0
  · rename_i h0
    have : decE q id g a now ≠ 0 := fun e => h0 (by rw [h.dcE, if_neg h1, if_neg (fun e => h2 e.2), if_neg (fun e => h3 e.2)]; exact e)
    unfold decQ
    rw [if_neg this]; exact h

/-! ### Lapse -/
theorem nodup_ky {es : List En} (h : DisK es) (P : En → Bool) : (((es.filter P).map (·.s)).map Sb.ky).Nodup := by
  rw [List.map_map]
  exact List.pairwise_map.2 (h.sublist List.filter_sublist)
open Classical in
theorem finA_ok {now : Int} (hn : 0 ≤ now ∧ now ≤ 105190559) : ∀ (L : List Sb) (q : Qu), q.OK → (q.es.Pairwise fun p r => p.1 ≠ r.1) → (L.map Sb.ky).Nodup → (∀ x ∈ L, ∃ u, aget q.es x.ky = some u ∧ u.s = x ∧ u.s.st = 0) →
    (finA now q L).OK ∧ ((finA now q L).es.Pairwise fun p r => p.1 ≠ r.1) ∧ (finA now q L).room = q.room ∧ (finA now q L).days = q.days ∧ ∀ c, aget (finA now q L).es c = if c ∈ L.map Sb.ky then (aget q.es c).map (fun u => plainE (fin3 now u.s)) else aget q.es c
  | [], q, ho, hd, _, _ => ⟨ho, hd, rfl, rfl, fun c => by rw [if_neg (by simp)]; rfl⟩
  | x :: L, q, ho, hd, hN, hx => by
    obtain ⟨u, hu, hux, hu0⟩ := hx x List.mem_cons_self
    have hN2 := List.nodup_cons.1 hN
    have h1 : (finQ q (fin3 now x)).OK := by
      rw [← hux]
      exact ho.fin hu hu0 ⟨by0, fun _ _ => rfl⟩ hn ⟨by decide, by decide⟩ (by decide)
    have hk : (fin3 now x).ky = x.ky := rfl
    have hes : (finQ q (fin3 now x)).es = aset q.es x.ky (plainE (fin3 now x)) := rfl
    have hd1 : (finQ q (fin3 now x)).es.Pairwise fun p r => p.1 ≠ r.1 := by rw [hes]; exact aset_dis hd _ _
    have hget : ∀ c, c ≠ x.ky → aget (finQ q (fin3 now x)).es c = aget q.es c := fun c hc => by
      rw [hes, aget_aset, if_neg (fun e => hc e.symm)]
    obtain ⟨r1, r2, r3, r4, r5⟩ := finA_ok hn L (finQ q (fin3 now x)) h1 hd1 hN2.2 (fun y hy => by
      have : y.ky ≠ x.ky := fun e => hN2.1 (by rw [← e]; exact List.mem_map.2 ⟨y, hy, rfl⟩)
      rw [hget _ this]
      exact hx y (List.mem_cons_of_mem _ hy))
    refine ⟨r1, r2, r3, r4, fun c => ?_⟩
    have : finA now q (x :: L) = finA now (finQ q (fin3 now x)) L := rfl
    rw [this, r5 c]
    by_cases hc : c = x.ky
    · subst hc
      have e1 : x.ky ∉ L.map Sb.ky := hN2.1
      rw [if_neg e1, if_pos (by rw [List.map_cons]; exact List.mem_cons_self), hes, aget_aset, if_pos rfl, hu]
      show _ = some (plainE (fin3 now u.s))
      rw [hux]
    · rw [hget c hc]
      have : (c ∈ List.map Sb.ky (x :: L)) ↔ c ∈ L.map Sb.ky := by
        rw [List.map_cons, List.mem_cons]
        exact ⟨fun h => h.resolve_left hc, .inr⟩
      by_cases hm : c ∈ L.map Sb.ky
      · rw [if_pos hm, if_pos (this.2 hm)]
      · rw [if_neg hm, if_neg (fun e => hm (this.1 e))]
theorem Rq.lap {n : Nat} {q : Qu} {M : Mo} (h : Rq n q M) {now : Int} (hmn : minB now = true) {L : List Sb} (hp : L.Perm (selE (lapP (now - q.days * 1440)) q.es)) (hs : L.Pairwise fun x y => ¬ cfM y x < 0) :
    L.map (fin3 now) = xlpL M now ∧ Rq n (finA now q L) (xlpM M now) := by
  have hL := h.uniq hp hs
  have hn := minB_iff.1 hmn
  have hwp : ∀ x ∈ L, ∃ u, u ∈ M.es ∧ lapP (now - q.days * 1440) u = true ∧ u.s = x := fun x hx => by
    rw [hL] at hx
    obtain ⟨u, hu, rfl⟩ := List.mem_map.1 hx
    exact ⟨u, (List.mem_filter.1 hu).1, (List.mem_filter.1 hu).2, rfl⟩
  refine ⟨?_, ?_⟩
  · unfold xlpL
    rw [if_pos hmn, hL, List.map_map, h.days]
    rfl
  obtain ⟨r1, r2, r3, r4, r5⟩ := finA_ok hn L q h.qo h.qd (by rw [hL]; exact nodup_ky h.dis _) (fun x hx => by
    obtain ⟨u, hu, hl, rfl⟩ := hwp x hx
    refine ⟨u, h.get hu, rfl, ?_⟩
    unfold lapP at hl
    simp at hl
    exact hl.1)
  unfold xlpM
  rw [if_pos hmn]
  refine h.map (fun y hy => ?_) r1 r3 r4 (finA_ms now L q) r2 (fun c => ?_)
  · unfold lpF
    split
    · exact ⟨rfl, rfl, fun hl => by cases hl⟩
    · exact ⟨rfl, rfl, h.le y hy⟩
  · rw [r5 c]
    cases hc : aget q.es c with
    | none => simp
    | some u =>
      have hm := (fd_iff h.dis).1 ((h.fd c).trans hc)
      have : c ∈ L.map Sb.ky ↔ lapP (now - M.days * 1440) u = true := by
        rw [h.days]
        constructor
        · intro hcm
          obtain ⟨x, hx, hxc⟩ := List.mem_map.1 hcm
          obtain ⟨v, hv, hl, rfl⟩ := hwp x hx
          have := h.get hv
          rw [hxc, hc] at this
          cases this
          exact hl
        · intro hl
          refine List.mem_map.2 ⟨u.s, ?_, hm.2⟩
          rw [hL]
          exact List.mem_map.2 ⟨u, List.mem_filter.2 ⟨hm.1, hl⟩, rfl⟩
      show _ = some (lpF (now - M.days * 1440) now u)
      unfold lpF
      by_cases hl : lapP (now - M.days * 1440) u = true
      · rw [if_pos hl, if_pos (this.2 hl)]; rfl
      · rw [if_neg hl, if_neg (fun e => hl (this.1 e))]

/-! ### Forget -/
open Classical in
theorem delA_ok : ∀ (L : List Sb) (q : Qu), q.OK → (q.es.Pairwise fun p r => p.1 ≠ r.1) → (∀ x ∈ L, ∀ u, aget q.es x.ky = some u → u.s.st ≠ 0) →
    (delA q L).OK ∧ ((delA q L).es.Pairwise fun p r => p.1 ≠ r.1) ∧ (delA q L).room = q.room ∧ (delA q L).days = q.days ∧ (delA q L).ms = q.ms ∧ ∀ c, aget (delA q L).es c = if c ∈ L.map Sb.ky then none else aget q.es c
  | [], q, ho, hd, _ => ⟨ho, hd, rfl, rfl, rfl, fun c => by rw [if_neg (by simp)]; rfl⟩
  | x :: L, q, ho, hd, hx => by
    have hget : ∀ c, aget (adel q.es x.ky) c = if x.ky = c then none else aget q.es c := fun c => aget_adel _ _ _
    have hd1 : (adel q.es x.ky).Pairwise fun p r => p.1 ≠ r.1 := hd.sublist List.filter_sublist
    have ho1 : ({ q with es := adel q.es x.ky } : Qu).OK := by
      refine ⟨ho.room, ho.days, ?_, ho.ms, fun k y hy => ?_⟩
      · show q.wt = _
        rw [ho.wt]
        congr 2
        show _ = (adel q.es x.ky).filter _
        unfold adel
        rw [List.filter_filter]
        refine List.filter_congr fun p hp => ?_
        by_cases hk : p.1 = x.ky
        · have hg : aget q.es x.ky = some p.2 := aget_at hd (by rw [← hk]; exact hp)
          have := hx x List.mem_cons_self p.2 hg
          have e : (p.2.s.st == 0) = false := by simpa using this
          rw [e]; rfl
        · simp [hk]
      · have hy : aget (adel q.es x.ky) k = some y := hy
        rw [hget] at hy
        split at hy
        · cases hy
        · exact ho.es k y hy
    obtain ⟨r1, r2, r3, r4, r5, r6⟩ := delA_ok L { q with es := adel q.es x.ky } ho1 hd1 (fun y hy u hu => by
      have hu : aget (adel q.es x.ky) y.ky = some u := hu
      rw [hget] at hu
      split at hu
      · cases hu
      · exact hx y (List.mem_cons_of_mem _ hy) u hu)
    refine ⟨r1, r2, r3, r4, r5, fun c => ?_⟩
    have : delA q (x :: L) = delA { q with es := adel q.es x.ky } L := rfl
    rw [this, r6 c]
    show (if c ∈ L.map Sb.ky then none else aget (adel q.es x.ky) c) = _
    rw [hget c]
    by_cases hm : c ∈ L.map Sb.ky
    · rw [if_pos hm, if_pos (by rw [List.map_cons]; exact List.mem_cons_of_mem _ hm)]
    · rw [if_neg hm]
      by_cases hc : x.ky = c
      · rw [if_pos hc, if_pos (by rw [List.map_cons, hc]; exact List.mem_cons_self)]
      · rw [if_neg hc, if_neg (fun e => by
          rw [List.map_cons] at e
          rcases List.mem_cons.1 e with e | e
          · exact hc e.symm
          · exact hm e)]
theorem kp_fgt (bf : Int) (x : En) : kpP bf x = !fgtP bf x := by
  unfold kpP fgtP
  rw [show decide (x.s.de ≥ bf) = !decide (x.s.de < bf) by rw [Bool.eq_iff_iff]; simp]
  cases hb : (x.s.st == 0) <;> cases decide (x.s.de < bf) <;> simp [bne, hb]
theorem Rq.fgt {n : Nat} {q : Qu} {M : Mo} (h : Rq n q M) {bf : Int} {L : List Sb} (hp : L.Perm (selE (fgtP bf) q.es)) :
    ((L.length : Nat) : Int) = (M.es.length : Int) - ((M.es.filter (kpP bf)).length : Nat) ∧ Rq n (delA q L) { M with es := M.es.filter (kpP bf) } := by
  have hpm := hp.trans (h.sel (fgtP bf))
  have hwp : ∀ x ∈ L, ∃ u, u ∈ M.es ∧ fgtP bf u = true ∧ u.s = x := fun x hx => by
    obtain ⟨u, hu, rfl⟩ := List.mem_map.1 (hpm.subset hx)
    exact ⟨u, (List.mem_filter.1 hu).1, (List.mem_filter.1 hu).2, rfl⟩
  refine ⟨?_, ?_⟩
  · have h1 := hpm.length_eq
    rw [List.length_map] at h1
    have h2 : ∀ es : List En, (es.filter (fgtP bf)).length + (es.filter (kpP bf)).length = es.length := fun es => by
      induction es with
      | nil => rfl
      | cons y es ih =>
        rw [List.filter_cons, List.filter_cons, kp_fgt]
        cases fgtP bf y <;> simp <;> omega
    have := h2 M.es
    omega
  obtain ⟨r1, r2, r3, r4, r5, r6⟩ := delA_ok L q h.qo h.qd (fun x hx u hu => by
    obtain ⟨v, hv, hf, rfl⟩ := hwp x hx
    rw [h.get hv] at hu
    cases hu
    unfold fgtP at hf
    simp at hf
    exact hf.1)
  refine h.filt r1 r3 r4 r5 r2 (fun c => ?_)
  rw [r6 c]
  cases hc : aget q.es c with
  | none => simp
  | some u =>
    have hm := (fd_iff h.dis).1 ((h.fd c).trans hc)
    have : c ∈ L.map Sb.ky ↔ fgtP bf u = true := by
      constructor
      · intro hcm
        obtain ⟨x, hx, hxc⟩ := List.mem_map.1 hcm
        obtain ⟨v, hv, hl, rfl⟩ := hwp x hx
        have := h.get hv
        rw [hxc, hc] at this
        cases this
        exact hl
      · intro hl
        refine List.mem_map.2 ⟨u.s, ?_, hm.2⟩
        exact hpm.symm.subset (List.mem_map.2 ⟨u, List.mem_filter.2 ⟨hm.1, hl⟩, rfl⟩)
    rw [Option.filter_some, kp_fgt]
    by_cases hl : fgtP bf u = true
    · rw [if_pos (this.2 hl), hl]; rfl
    · have hl2 : fgtP bf u = false := by simpa using hl
      rw [if_neg (fun e => hl (this.1 e)), hl2]; rfl

/-! ### The moderators -/
theorem gset_find (g : ByteArray) (X : MX) (c : ByteArray) : ∀ l : List Gx, ((gset l g X).find? fun y => decide (y.g = c)) = if g = c then some ⟨g, X⟩ else l.find? fun y => decide (y.g = c)
  | [] => by
    unfold gset
    by_cases h : g = c <;> simp [h]
  | y :: r => by
    unfold gset
    by_cases h : y.g = g
    · rw [if_pos h]
      by_cases hc : g = c
      · rw [if_pos hc, List.find?_cons]
        simp [hc]
      · rw [if_neg hc, List.find?_cons, List.find?_cons]
        have : ¬ y.g = c := fun e => hc (by rw [← h, e])
        simp [hc, this]
    · rw [if_neg h]
      rw [List.find?_cons, gset_find g X c r, List.find?_cons]
      by_cases hc : y.g = c
      · have : ¬ g = c := fun e => h (by rw [e, hc])
        simp [hc, this]
      · simp [hc]
theorem gset_md (M : Mo) (g : ByteArray) (X : MX) (c : ByteArray) : ({ M with gs := gset M.gs g X } : Mo).md c = if g = c then X else M.md c := by
  unfold Mo.md
  show (((gset M.gs g X).find? _).map _).getD _ = _
  rw [gset_find]
  split <;> rfl
theorem gset_mem {g : ByteArray} {X : MX} {y : Gx} : ∀ {l : List Gx}, y ∈ gset l g X → y = ⟨g, X⟩ ∨ y ∈ l
  | [], h => by unfold gset at h; exact .inl (by simpa using h)
  | z :: r, h => by
    unfold gset at h
    split at h
    · rcases List.mem_cons.1 h with h | h
      · exact .inl h
      · exact .inr (List.mem_cons_of_mem _ h)
    · rcases List.mem_cons.1 h with h | h
      · exact .inr (by rw [h]; exact List.mem_cons_self)
      · exact (gset_mem h).imp id (List.mem_cons_of_mem _)
theorem gset_len (g : ByteArray) (X : MX) : ∀ l : List Gx, (gset l g X).length ≤ l.length + 1
  | [] => by simp [gset]
  | y :: r => by
    unfold gset
    split
    · simp
    · have := gset_len g X r
      simp only [List.length_cons]; omega
theorem Rq.setr {n : Nat} {q q' : Qu} {M : Mo} (h : Rq n q M) {g : ByteArray} {l : List (Nat → Int)} (hl : ∀ m ∈ l, BY m ∧ NZ 16 m) (hR : setR q g l q') {X : MX} (h0 : setE g l = 0) (hp : X.l.Perm l) (hs : X.l.Pairwise fun x y => cfA x y < 0) :
    Rq (n + 1) q' { M with gs := gset M.gs g X } := by
  have hok := h.qo.setR hl hR
  have h8 : l.length ≤ 8 := by
    unfold setE at h0
    split at h0
    · contradiction
    · split at h0
      · cases h0
      · omega
  have hbase : q'.room = q.room ∧ q'.days = q.days ∧ q'.es = q.es ∧ ∀ c, (q'.md c).l = if g = c then X.l else (q.md c).l := by
    rcases hR with ⟨h1, _⟩ | ⟨_, rfl, rfl⟩ | ⟨_, hne, x, hxp, hxs, _, rfl⟩
    · exact absurd h0 h1
    · refine ⟨rfl, rfl, rfl, fun c => ?_⟩
      show (((aget (adel q.ms g) c).getD mxz)).l = _
      rw [aget_adel]
      split
      · rw [List.perm_nil.1 hp]; rfl
      · rfl
    · refine ⟨rfl, rfl, rfl, fun c => ?_⟩
      show (((aget (aset q.ms g x) c).getD mxz)).l = _
      rw [aget_aset]
      split
      · show x.l = X.l
        refine perm_uniq39 (R := fun x y => ¬ cfA y x < 0) (hxp.trans hp.symm) hxs (hs.imp fun {a b} hab hc => ?_) (fun a ha b hb h1 h2 => ?_)
        · have : cfA a b = - cfA b a := cb_anti _ _
          omega
        · have e : cfA a b = - cfA b a := cb_anti _ _
          have e0 : auB a = auB b := cb_zero _ _ (by unfold cfA at h1 h2 e; omega)
          have ma := hl a (hxp.subset ha)
          have mb := hl b (hxp.subset hb)
          exact nz_eq ma.2 mb.2 (auB_inj ma.1 mb.1 e0)
      · rfl
  obtain ⟨b1, b2, b3, b4⟩ := hbase
  exact {
    qo := hok
    room := by rw [b1]; exact h.room
    days := by rw [b2]; exact h.days
    qd := by rw [b3]; exact h.qd
    dis := h.dis
    fd := fun k => by rw [b3]; exact h.fd k
    srt := h.srt
    ms := fun c => by
      rw [b4 c, gset_md]
      split
      · rfl
      · exact h.ms c
    gs := fun y hy => by
      rcases gset_mem hy with rfl | hy
      · exact ⟨fun z hz => hl z (hp.subset hz), by show X.l.length ≤ 8; rw [hp.length_eq]; exact h8⟩
      · exact h.gs y hy
    gl := by have := gset_len g X M.gs; have := h.gl; show (gset M.gs g X).length ≤ n + 1; omega
    el := Nat.le_succ_of_le h.el
    le := h.le }
theorem Rq.new (room days : Int) (h : newR room days = false) : Rq 0 ⟨room, days, 0, [], []⟩ ⟨room, days, [], []⟩ := by
  unfold newR at h
  simp at h
  exact ⟨⟨⟨h.1.1.1, h.1.1.2⟩, ⟨h.1.2, h.2⟩, rfl, fun g x h => (by cases h), fun k x h => (by cases h)⟩, rfl, rfl, List.Pairwise.nil, List.Pairwise.nil, fun k => rfl, List.Pairwise.nil, fun g => rfl, fun y hy => (by cases hy), by show (0 : Nat) ≤ 0; omega, by show (0 : Nat) ≤ 0; omega, fun x hx => (by cases hx)⟩

end Go.Proofs.YtfacflbmlfbeeaaGreatDoor

/- Chapter 39: SetModerators again, with the types of the rows. Printed by mksetq39.py. -/
namespace Go.Proofs.YtfacflbmlfbeeaaGreatDoor
open Go.RowKit Go.Sort Go.Maps

set_option maxHeartbeats 1000000 in
theorem setModsQ_any {w : World} {b mb eb : Nat} {q : Qu} (h : Mq w b mb eb q) (hQ : QSep w q) (g : ByteArray) (l : List (Nat → Int)) (p : Option Addr) (c : Nat) (hR : RowA auC 16 w p l) (hp : ∀ g o, p = some ⟨g, o, none⟩ → g < w.heap.size) (hb : ∀ m ∈ l, BY m) (hG : GW w) :
    Calls Tryz.prog 38 #[.pointer (some ⟨b, 0, none⟩), .string g, .slice p l.length c] w fun e w' => e = .returned (.int .i64 (setE g l)) ∧ (∃ q', setR q g l q' ∧ Mq w' b mb eb q' ∧ QSep w' q') ∧ Kp (QB b mb eb) w w' := by
  refine vc_setMods b g p l.length c w _ ⟨(gcheck_any g w hG).mono fun e w1 ⟨he, k1⟩ => ⟨_, he, .of_k0 k1, bsp_intro (fun h1 => ?_) (fun h1 => bsp_intro (fun h2 => ?_) (fun h2 => ?_))⟩⟩
  · have h1 : gnE g ≠ 0 := by simpa using h1
    have hE : setE g l = gnE g := by unfold setE; rw [if_pos h1]
    exact ⟨by rw [hE], ⟨q, .inl ⟨by rw [hE]; exact h1, rfl⟩, h.k0 k1, hQ.k0 k1⟩, k1.q0⟩
  · have h1 : gnE g = 0 := by simpa using h1
    have h2 : 8 < l.length := by simp at h2; omega
    have hE : setE g l = 9 := by unfold setE; rw [if_neg (by omega), if_pos h2]
    exact ⟨by rw [hE], ⟨q, .inl ⟨by rw [hE]; decide, rfl⟩, h.k0 k1, hQ.k0 k1⟩, k1.q0⟩
  have h1 : gnE g = 0 := by simpa using h1
  have h2 : ¬ 8 < l.length := by simp at h2; omega
  have hgs := gnE_sz39 h1
  refine ⟨(avalues_any p l.length c w1).mono fun e w2 ⟨⟨Bs, he, hc, hlt⟩, k2⟩ => ⟨_, he, .of_k0 k2, ?_⟩⟩
  have k02 := k1.trans k2
  refine ⟨(asorted_any l p c Bs w2 hc hlt (hR.k0 k02) (fun g o e => Nat.lt_of_lt_of_le (hp g o e) k02.size) (by omega)).mono fun e w3 ⟨⟨p', c', l', he, hpm, hs, ho⟩, k3⟩ => ⟨_, _, _, he, .of_k0 k3, ?_⟩⟩
  have k03 := k02.trans k3
  have hl' := hpm.length_eq
  have hb' : ∀ m ∈ l', BY m := fun m hm => hb m (hpm.subset hm)
  refine ⟨(aclone_any l' p' c' w3 (RowA.own ho auC_length (by decide)) (by omega)).mono fun e w4 hcl => ?_⟩
  obtain ⟨⟨p4, c4, he, ho4⟩, k4⟩ := hcl
  refine ⟨_, _, _, he, .of_k0 k4, ?_⟩
  refine ⟨(acompact_any l' p4 c4 w4 ho4 hb' (by omega)).mono fun e w5 ⟨⟨m, he, hm⟩, k5⟩ => ⟨_, _, _, he, .of_kp k5 (fun z hz => by cases hz), ?_⟩⟩
  have k35 : K0 w3 w5 := k4.fresh k5 (fun i hi e => by have := own_ge ho4 e; omega)
  have k05 := k03.trans k35
  have hadj := sorted_adj hs hb'
  have hnd : (l'.map auI).Nodup ↔ (l.map auI).Nodup := (hpm.map auI).nodup_iff
  refine bsp_intro (fun h3 => ?_) (fun h3 => ?_)
  · have h3 : m < l.length := by simp at h3; omega
    have hE : setE g l = 7 := by
      unfold setE
      rw [if_neg (by omega), if_neg h2, if_neg]
      intro hn
      rcases hm with ⟨rfl, _⟩ | ⟨_, ha⟩
      · omega
      · exact (hadj.1 ha) (hnd.2 hn)
    exact ⟨by rw [hE], ⟨q, .inl ⟨by rw [hE]; decide, rfl⟩, h.k0 k05, hQ.k0 k05⟩, k05.q0⟩
  have h3 : ¬ m < l.length := by simp at h3; omega
  have hE : setE g l = 0 := by
    unfold setE
    rw [if_neg (by omega), if_neg h2, if_pos]
    rcases hm with ⟨_, ha⟩ | ⟨hlt, _⟩
    · exact hnd.1 (Classical.byContradiction fun hn => ha (hadj.2 hn))
    · omega
  have h5 := h.k0 k05
  refine bsp_intro (fun h4 => ?_) (fun h4 => ?_)
  · have h4 : l'.length = 0 := by simpa using h4
    obtain ⟨w6, hbl, h6, k6⟩ := h5.delM (g := g) (by omega)
    refine ⟨some mb, h5.cM, w6, hbl, .of_kp k6 (fun z hz => by cases hz), by rw [hE], ⟨_, .inr (.inl ⟨hE, List.eq_nil_of_length_eq_zero (by omega), rfl⟩), h6, fun g' x hx => (hQ.k0 k05).qb h5 (k6.qb (fun k e => .inr (.inl e))) g' x (by
      have hx : aget (adel q.ms g) g' = some x := hx
      rw [aget_adel] at hx
      split at hx
      · cases hx
      · exact hx)⟩, k05.q0.trans (k6.qb (fun k e => .inr (.inl e)))⟩
  · have h4 : ¬ l'.length = 0 := by simpa using h4
    have hR' : RowA auC 16 w5 p' l' := (RowA.own ho auC_length (by decide)).k0 k35
    obtain ⟨w6, hu, h6, k6⟩ := h5.updM ⟨l', p', c'⟩ hR' (g := g) (by omega)
    refine ⟨some mb, h5.cM, bsp_intro (fun h => by cases h) (fun _ => ⟨some mb, h5.cM, w6, hu, .of_kp k6 (fun z hz => by cases hz), by rw [hE], ⟨_, .inr (.inr ⟨hE, fun e => h4 (by rw [hl', e]; rfl), ⟨l', p', c'⟩, hpm, hs, own_le ho, rfl⟩), h6, fun g' x hx => by
      have k6' : Kp (QB b mb eb) w5 w6 := k6.qb (fun k e => .inr (.inl e))
      have hx : aget (aset q.ms g ⟨l', p', c'⟩) g' = some x := hx
      rw [aget_aset] at hx
      split at hx
      · cases hx
        exact ((TyA.own ho).k0 k35).kp k6' (fun _ _ _ hc => h5.not_ty hc (by decide))
      · exact (hQ.k0 k05).qb h5 k6' g' x hx⟩, k05.q0.trans (k6.qb (fun k e => .inr (.inl e)))⟩)⟩

end Go.Proofs.YtfacflbmlfbeeaaGreatDoor

/- Chapter 39: the example of the chapter, plain. No condition. -/
namespace Go.Proofs.YtfacflbmlfbeeaaGreatDoor
open Go.RowKit Go.Sort Go.Maps

def k39 (v : Int) : Nat → Int
  | 0 => v
  | _ + 1 => 0
theorem k39_BY {v : Int} (h : 0 ≤ v ∧ v ≤ 255) : BY (k39 v) := fun j => by cases j <;> simp [k39] <;> omega
theorem k39_NZ {n : Nat} (h : 0 < n) (v : Int) : NZ n (k39 v) := fun j hj => by
  cases j with
  | zero => omega
  | succ j => rfl
def kG : ByteArray := ⟨#[103]⟩
def kX : ByteArray := ⟨#[116, 101, 120, 116, 32, 111, 102, 32, 120]⟩
def kY : ByteArray := ⟨#[116, 101, 120, 116, 32, 111, 102, 32, 121]⟩
def kex : En := newE (k39 7) kG kX 10
def key_ : En := newE (k39 3) kG kY 5
def kx : Ky := (idI (k39 7), kG)
def ky : Ky := (idI (k39 3), kG)
def key2 : En := ⟨key_.s, true, k39 1, 20⟩
def kex2 : En := ⟨kex.s, true, k39 2, 20⟩
def key3 : En := plainE (finS39 key_.s (k39 2) 80 1 ⟨#[]⟩)
def kq (x : MX) (wt : Int) (es : List (Ky × En)) : Qu := ⟨5, 14, wt, [(kG, x)], es⟩
/-- Two moderators. -/
def kM (x : MX) : Prop := x.l.Perm [k39 2, k39 1]
theorem kq_md {x : MX} {wt : Int} {es : List (Ky × En)} : (kq x wt es).md kG = x := by unfold Qu.md kq; simp [aget]
theorem kM_is {x : MX} (h : kM x) (i : Int) (hi : i = 1 ∨ i = 2) : isMB x (k39 i) = true := by
  unfold isMB
  rw [decide_eq_true_eq]
  refine List.mem_map.2 ⟨k39 i, h.symm.subset ?_, rfl⟩
  rcases hi with rfl | rfl <;> simp
theorem kxy : ¬ kx = ky := by decide +kernel
theorem k_set : setE kG [k39 2, k39 1] = 0 := by
  unfold setE
  rw [if_neg (by decide +kernel), if_neg (by decide), if_pos]
  have h : auI (k39 2) ≠ auI (k39 1) := by decide +kernel
  simp [h]
theorem kset_iff {q' : Qu} (h : setR ⟨5, 14, 0, [], []⟩ kG [k39 2, k39 1] q') : ∃ x, kM x ∧ q' = kq x 0 [] := by
  rcases h with ⟨h, _⟩ | ⟨_, h, _⟩ | ⟨_, _, x, hp, _, _, rfl⟩
  · exact absurd k_set h
  · cases h
  · exact ⟨x, hp, rfl⟩
theorem k_gn : gnE kG = 0 := by decide +kernel
theorem k_sub1 {x : MX} (h : kM x) : subE (kq x 0 []) (k39 7) kG kX 10 = 0 := by
  unfold subE
  rw [if_neg (by decide), if_neg (by rw [k_gn]; decide), if_neg (by decide), kq_md, if_neg (by rw [h.length_eq]; decide), if_neg (by show ¬ (aget [] _).isSome = true; decide), if_neg (by show ¬ (5 : Int) ≤ 0; decide)]
theorem k_subQ1 {x : MX} (h : kM x) : subQ (kq x 0 []) (k39 7) kG kX 10 = kq x 1 [(kx, kex)] := by
  unfold subQ
  rw [if_pos (k_sub1 h)]
  rfl
theorem k_a1 : aget [(kx, kex)] ky = none := by unfold aget; rw [if_neg kxy]; rfl
theorem k_sub2 {x : MX} (h : kM x) : subE (kq x 1 [(kx, kex)]) (k39 3) kG kY 5 = 0 := by
  unfold subE
  rw [if_neg (by decide), if_neg (by rw [k_gn]; decide), if_neg (by decide), kq_md, if_neg (by rw [h.length_eq]; decide), if_neg (by show ¬ (aget [(kx, kex)] ky).isSome = true; rw [k_a1]; decide), if_neg (by show ¬ (5 : Int) ≤ 1; decide)]
theorem k_subQ2 {x : MX} (h : kM x) : subQ (kq x 1 [(kx, kex)]) (k39 3) kG kY 5 = kq x 2 [(kx, kex), (ky, key_)] := by
  unfold subQ
  rw [if_pos (k_sub2 h)]
  show kq x 2 (aset [(kx, kex)] ky key_) = _
  unfold aset
  rw [if_neg kxy]
  rfl
theorem k_s1 : ∀ e1 e2 : En, selE (clP kG (auI (k39 1)) 20) [(kx, e1), (ky, e2)] = (if clP kG (auI (k39 1)) 20 e1 = true then [e1.s] else []) ++ (if clP kG (auI (k39 1)) 20 e2 = true then [e2.s] else []) := fun e1 e2 => by
  unfold selE
  rw [List.filter_cons, List.filter_cons, List.filter_nil]
  split <;> split <;> rfl
theorem k_s2 : ∀ e1 e2 : En, selE (clP kG (auI (k39 2)) 20) [(kx, e1), (ky, e2)] = (if clP kG (auI (k39 2)) 20 e1 = true then [e1.s] else []) ++ (if clP kG (auI (k39 2)) 20 e2 = true then [e2.s] else []) := fun e1 e2 => by
  unfold selE
  rw [List.filter_cons, List.filter_cons, List.filter_nil]
  split <;> split <;> rfl
theorem k_c1 : clP kG (auI (k39 1)) 20 kex = true := by decide +kernel
theorem k_c2 : clP kG (auI (k39 1)) 20 key_ = true := by decide +kernel
theorem k_c3 : clP kG (auI (k39 1)) 20 key2 = true := by decide +kernel
theorem k_c4 : clP kG (auI (k39 2)) 20 kex = true := by decide +kernel
theorem k_c5 : clP kG (auI (k39 2)) 20 key2 = false := by decide +kernel
theorem k_lt : cfM key_.s kex.s < 0 := by decide +kernel
theorem k_sel1 {x : MX} : isSel (kq x 2 [(kx, kex), (ky, key_)]) kG (auI (k39 1)) 20 = [kex.s, key_.s] := by
  show selE _ [(kx, kex), (ky, key_)] = _
  rw [k_s1, if_pos k_c1, if_pos k_c2]; rfl
theorem k_sel2 {x : MX} : isSel (kq x 2 [(kx, kex), (ky, key2)]) kG (auI (k39 1)) 20 = [kex.s, key_.s] := by
  show selE _ [(kx, kex), (ky, key2)] = _
  rw [k_s1, if_pos k_c1, if_pos k_c3]; rfl
theorem k_sel3 {x : MX} : isSel (kq x 2 [(kx, kex), (ky, key2)]) kG (auI (k39 2)) 20 = [kex.s] := by
  show selE _ [(kx, kex), (ky, key2)] = _
  rw [k_s2, if_pos k_c4, if_neg (by rw [k_c5]; decide)]; rfl
theorem k_min {s : Sb} (h : s ∈ [kex.s, key_.s]) (hm : ∀ y ∈ [kex.s, key_.s], ¬ cfM y s < 0) : s = key_.s := by
  rcases List.mem_cons.1 h with rfl | h
  · exact absurd k_lt (hm key_.s (by simp))
  · simpa using h
theorem k_clm {x : MX} (h : kM x) (i : Int) (hi : i = 1 ∨ i = 2) {es : List (Ky × En)} (hs : (isSel (kq x 2 es) kG (auI (k39 i)) 20).length ≠ 0) : clmE (kq x 2 es) kG (k39 i) 20 = 0 := by
  unfold clmE
  rw [if_neg (by decide), kq_md, if_neg (by rw [kM_is h i hi]; decide), if_neg hs]
theorem k_set1 {e1 e2 v : En} : aset [(kx, e1), (ky, e2)] ky v = [(kx, e1), (ky, v)] := by
  unfold aset
  rw [if_neg kxy]
  unfold aset
  rw [if_pos rfl]
theorem k_set2 {e1 e2 v : En} : aset [(kx, e1), (ky, e2)] kx v = [(kx, v), (ky, e2)] := by
  unfold aset
  rw [if_pos rfl]
theorem k_gety {e1 e2 : En} : aget [(kx, e1), (ky, e2)] ky = some e2 := by
  unfold aget
  rw [if_neg kxy]
  unfold aget
  rw [if_pos rfl]
theorem k_en {x : MX} {e1 e2 : En} : (kq x 2 [(kx, e1), (ky, e2)]).en ky = e2 := by
  unfold Qu.en
  show (aget [(kx, e1), (ky, e2)] ky).getD enz = e2
  rw [k_gety]; rfl
theorem k_dec {x : MX} (h : kM x) {e1 : En} (now : Int) : decE (kq x 2 [(kx, e1), (ky, key2)]) (k39 3) kG (k39 2) now = if blk key2 (auI (k39 2)) now = true then 25 else 0 := by
  unfold decE
  rw [kq_md, if_neg (by rw [kM_is h 2 (.inr rfl)]; decide), if_neg (by show ¬ (aget [(kx, e1), (ky, key2)] ky).isSome = false; rw [k_gety]; decide)]
  have e : (kq x 2 [(kx, e1), (ky, key2)]).en (idI (k39 3), kG) = key2 := k_en
  rw [e, if_neg (by show ¬ (0 : Int) ≠ 0; decide)]
theorem k_b79 : blk key2 (auI (k39 2)) 79 = true := by decide +kernel
theorem k_b80 : blk key2 (auI (k39 2)) 80 = false := by decide +kernel
theorem k_ap79 {x : MX} (h : kM x) {e1 : En} : apE (kq x 2 [(kx, e1), (ky, key2)]) (k39 3) kG (k39 2) 79 = 25 := by
  unfold apE
  rw [if_neg (by decide), k_dec h, if_pos k_b79]
theorem k_ap80 {x : MX} (h : kM x) {e1 : En} : apE (kq x 2 [(kx, e1), (ky, key2)]) (k39 3) kG (k39 2) 80 = 0 := by
  unfold apE
  rw [if_neg (by decide), k_dec h, if_neg (by rw [k_b80]; decide)]
theorem k_apQ79 {x : MX} (h : kM x) {e1 : En} : apQ (kq x 2 [(kx, e1), (ky, key2)]) (k39 3) kG (k39 2) 79 1 ⟨#[]⟩ = kq x 2 [(kx, e1), (ky, key2)] := by
  unfold apQ decQ
  rw [if_neg (by decide), k_dec h, if_pos k_b79, if_neg (by decide)]
theorem k_apQ80 {x : MX} (h : kM x) {e1 : En} : apQ (kq x 2 [(kx, e1), (ky, key2)]) (k39 3) kG (k39 2) 80 1 ⟨#[]⟩ = kq x 1 [(kx, e1), (ky, key3)] := by
  unfold apQ decQ
  have e : (kq x 2 [(kx, e1), (ky, key2)]).en (idI (k39 3), kG) = key2 := k_en
  rw [if_neg (by decide), k_dec h, k_b80, if_pos (by decide), e]
  show kq x 1 (aset [(kx, e1), (ky, key2)] ky key3) = _
  rw [k_set1]
theorem k_l1 : lsP kG 1 kex2 = false := by decide +kernel
theorem k_l2 : lsP kG 1 key3 = true := by decide +kernel
theorem k_cnt : (selE (lsP kG 1) [(kx, kex2), (ky, key3)]).length = 1 := by
  unfold selE
  rw [List.filter_cons, if_neg (by rw [k_l1]; decide), List.filter_cons, if_pos k_l2]
  rfl
theorem kq0_ok : (⟨5, 14, 0, [], []⟩ : Qu).OK := ⟨⟨by decide, by decide⟩, ⟨by decide, by decide⟩, rfl, fun g x h => (by cases h), fun k x h => (by cases h)⟩
theorem kml : ∀ m ∈ [k39 2, k39 1], BY m ∧ NZ 16 m := fun m hm => by
  simp only [List.mem_cons, List.not_mem_nil, or_false] at hm
  rcases hm with rfl | rfl
  · exact ⟨k39_BY (by decide), k39_NZ (by decide) 2⟩
  · exact ⟨k39_BY (by decide), k39_NZ (by decide) 1⟩

end Go.Proofs.YtfacflbmlfbeeaaGreatDoor
