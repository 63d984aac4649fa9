/- Chapter 49: the contracts of Bounce and of a queue's NewQueue, append, Add, Get, Fail. Messages that are valid, or not too great; the table of powers of ten. -/
import Derived.Test.YtmlmdljnfokebaaGreatDoorZ07
import Derived.Maps.RangeRun
import Derived.Test.YtmlmdljnfokebaaGreatDoorZ04
import Derived.Shelf.SlSortCmp.Kit1
import Derived.Sort.Grow
import Derived.Test.YtmlmdljnfokebaaGreatDoorProg
import Derived.Test.YtmlmdljnfokebaaGreatDoorZ02
import Derived.KernelRfl
import Derived.Test.YtmlmdljnfokebaaGreatDoorZ05
namespace Go.Proofs.YtmlmdljnfokebaaGreatDoor
open Go.RowKit Go.Maps

/-! ### Bounces -/
def mz : Ml := ⟨⟨#[]⟩, ⟨#[]⟩, ⟨#[]⟩, ⟨#[]⟩, 0, 0, ⟨#[]⟩, [], ⟨#[]⟩⟩
def bncM (m : Ml) (s : ByteArray) (code now : Int) : Option Ml :=
  if m.fu.size = 0 then none else if chkM m ≠ 0 ∨ minB now = false then none else if siteE s ≠ 0 then none else
  some ⟨⟨#[]⟩, s, m.fu, m.fs, m.n, now, ⟨#[78, 111, 116, 32, 100, 101, 108, 105, 118, 101, 114, 101, 100]⟩, [], m.tu ++ ⟨#[64]⟩ ++ m.ts ++ ⟨#[32]⟩ ++ decI code ++ ⟨#[10]⟩ ++ m.sj ++ ⟨#[10]⟩⟩
set_option maxHeartbeats 1000000 in
theorem bounce_any (m : Ml) (p : Option Addr) (c : Nat) (s : ByteArray) (code now : Int) (w : World) (hR : StrP w p m.hops) (hc : m.hops.length ≤ c) (hb : m.bd.size ≤ 4611686018427387904) (hhl : m.hops.length ≤ 4611686018427387904) (hT : GT w) (hcode : I64 code) :
    Calls Tryz.prog 52 #[mxA m p c, .string s, .int .i64 code, .int .i64 now] w fun e w' => e = .returned (.tuple #[mxA ((bncM m s code now).getD mz) none 0, .bool (bncM m s code now).isSome]) ∧ K0 w w' := by
  refine vc_mbounce m.fu m.fs m.tu m.ts m.n m.d m.sj p m.hops.length c m.bd s code now w _ (fun n1 n2 W hW => ?_)
  have kW : K0 w W := hW.kk rfl
  rw [toList_nil]
  unfold bncM
  refine bsp_intro (fun h => ?_) (fun h => ?_)
  · rw [if_neg (by simpa using h)]
    refine ⟨(mcheck_any m p c W (hR.k0 kW) hc hb hhl).mono fun e w1 ⟨he, k1⟩ => ⟨_, he, .of_k0 k1, bsp_intro (fun h => fun W2 hW2 => ?_) (fun h => ?_)⟩⟩
    · rw [if_pos (by simpa using h)]
      exact ⟨rfl, hW2.k0 (kW.trans k1)⟩
    have h01 : chkM m = 0 ∧ minB now = true := by simpa using h
    rw [if_neg (by rw [h01.1, h01.2]; simp)]
    obtain ⟨z1, z2, z3, z4, z5, z6, z7, z8, z9, z10, z11, z12⟩ := chkM_bd h01.1
    refine ⟨(siteK_any s w1).mono fun e w2 ⟨he, k2⟩ => ⟨_, _, he, .of_k0 k2, bsp_intro (fun h => fun W2 hW2 => ?_) (fun h => ?_)⟩⟩
    · rw [if_pos (show siteE s ≠ 0 by simpa [siteE] using h)]
      exact ⟨rfl, hW2.k0 ((kW.trans k1).trans k2)⟩
    rw [if_neg (show ¬ siteE s ≠ 0 by simpa [siteE] using h)]
    intro W3 hW3
    have k3 : K0 w2 W3 := hW3.kk rfl
    have k03 := ((kW.trans k1).trans k2).trans k3
    have hc2 : W3.heap[n2]? = some (.cells #[.string ⟨#[]⟩, .string ⟨#[]⟩, .string ⟨#[]⟩, .string ⟨#[]⟩, .int .i64 0, .int .i64 0, .string ⟨#[]⟩, .slice none 0 0, .string ⟨#[]⟩] 26 (0, 0)) := hW3.cells 0 rfl
    have hc1 : W3.heap[n1]? = some (.cells #[.string m.fu, .string m.fs, .string m.tu, .string m.ts, .int .i64 m.n, .int .i64 m.d, .string m.sj, .slice p m.hops.length c, .string m.bd] 26 (0, 0)) := hW3.cells 1 rfl
    have g2 : w.heap.size ≤ n2 := hW.fresh 0 rfl rfl
    have hne : n2 ≠ n1 := hW.apart 0 1 rfl rfl (by decide)
    have hat : ∀ (o : Nat) (cs : List Value), ((#[.string m.fu, .string m.fs, .string m.tu, .string m.ts, .int .i64 m.n, .int .i64 m.d, .string m.sj, .slice p m.hops.length c, .string m.bd] : Array Value).toList.drop o).take cs.length = cs → ∀ wx, K0 W3 wx → AtL wx n1 o cs := fun o cs hcs wx k => AtL_block (k.blk hc1 (fun h => h)) hcs
    refine ⟨fun wx => K0 W3 wx, .refl _ _, m.fu, m.fs, fun wx k => hat 0 _ rfl wx k, m.n, fun wx k => cell_at (k.blk hc1 (fun h => h)) rfl, m.tu, m.ts, fun wx k => hat 2 _ rfl wx k, m.sj, fun wx k => cell_at (k.blk hc1 (fun h => h)) rfl, ?_⟩
    refine ⟨(mstr_any m.tu m.ts W3 (by omega) (by omega)).mono fun e w4 ⟨he, k4⟩ => ⟨_, he, k4, nneg (by simp only [ByteArray.size_append, size_one]; omega), ?_⟩⟩
    have hd := decI_size hcode
    refine ⟨(digits_any code w4 (hT.k0 (k03.trans k4)) hcode).mono fun e w5 ⟨he, k5⟩ => ⟨_, he, k4.trans k5, nneg (by simp only [ByteArray.size_append, size_one]; omega), nneg (by simp only [ByteArray.size_append, size_one]; omega), nneg (by simp only [ByteArray.size_append, size_one]; omega), nneg (by simp only [ByteArray.size_append, size_one]; omega), ?_⟩⟩
    have hc5 := (k4.trans k5).blk hc2 (fun h => h)
    refine ⟨WrL_block hc5 (Nat.le_refl 9), fun w6 hp => ?_⟩
    have hc6 := hp.full hc5 rfl
    refine ⟨⟨by rw [hp.size]; exact (k4.trans k5).size, fun x hx hlt' => ?_⟩, _, _, _, _, _, _, _, _, _, _, _, AtL_block hc6 rfl, rfl, put_k0 (k03.trans (k4.trans k5)) hp g2⟩
    obtain rfl : x = n1 := by simpa using hx
    rw [hp.blk ((k4.trans k5).blk hc1 (fun h => h)) (fun e => hne e.symm), hc1]
  · rw [if_pos (by simpa using h)]
    exact ⟨.refl _ _, fun W2 hW2 => ⟨rfl, hW2.k0 kW⟩⟩

/-! ### Queues -/
/-- A message that waits. -/
structure Qd where
  m : Ml
  p : Option Addr
  c : Nat
  f : Int
  due : Int
abbrev qdV (x : Qd) : Value := .agg #[.string x.m.fu, .string x.m.fs, .string x.m.tu, .string x.m.ts, .int .i64 x.m.n, .int .i64 x.m.d, .string x.m.sj, .slice x.p x.m.hops.length x.c, .string x.m.bd, .int .i64 x.f, .int .i64 x.due]
def qz : Qd := ⟨mz, none, 0, 0, 0⟩
/-- A queue in the memory: in block b, its map in block mb. -/
structure QR (w : World) (b mb : Nat) (site : ByteArray) (last : Int) (l : List (Int × Qd)) : Prop where
  blk : w.heap[b]? = some (.cells #[.string site, .int .i64 last, .map (some mb)] 106 (0, 0))
  map : MapB Tryz.prog 3 (fun a : Int => Value.int .i64 a) w mb (amap qdV l)
  ne : mb ≠ b
  str : ∀ a x, aget l a = some x → StrP w x.p x.m.hops ∧ (∀ g o, x.p = some ⟨g, o, none⟩ → b < g ∧ g ≠ mb)
  ok : ∀ a x, aget l a = some x → chkM x.m = 0 ∧ x.m.hops.length ≤ x.c ∧ 0 ≤ x.f ∧ x.f ≤ 7
theorem encInt (x y : Int) (h : Value.int .i64 x = Value.int .i64 y) : x = y := by cases h; rfl
theorem keyInt {a : Int} (h : I64 a) : keyOf Tryz.prog 3 (.int .i64 a) = some (.int .i64 a) := keyOf_int_mk Tryz.underlying3 (by unfold I64 at h; simp [Lit.wf, IntKind.min, IntKind.max, IntKind.bits, IntKind.signed]; omega)
theorem zeroQ (w : World) : (zeroValue 110).run Tryz.prog w = .ok (qdV qz) w := by kernel_rfl
section
variable {w w' : World} {b mb : Nat} {site : ByteArray} {last : Int} {l : List (Int × Qd)}
theorem QR.k0 (h : QR w b mb site last l) (hk : K0 w w') : QR w' b mb site last l :=
  ⟨hk.blk h.blk (fun h => h), h.map.kp hk (fun h => h), h.ne, fun a x hx => ⟨(h.str a x hx).1.k0 hk, (h.str a x hx).2⟩, h.ok⟩
theorem QR.look (h : QR w b mb site last l) {a : Int} (ha : I64 a) : LookP Tryz.prog 104 (.map (some mb)) (.int .i64 a) true (.tuple #[qdV ((aget l a).getD qz), .bool (aget l a).isSome]) w := by
  have := MapB.look encInt h.map (int_keyed Tryz.underlying3) Tryz.underlying104 (zeroQ w) (keyInt ha) true
  rw [aget_amap] at this
  cases hg : aget l a with
  | none => rw [hg] at this; exact this
  | some x => rw [hg] at this; exact this
theorem QR.upd (h : QR w b mb site last l) {a : Int} (ha : I64 a) (x : Qd) (h1 : StrP w x.p x.m.hops) (h2 : ∀ g o, x.p = some ⟨g, o, none⟩ → b < g ∧ g ≠ mb) (h3 : chkM x.m = 0 ∧ x.m.hops.length ≤ x.c ∧ 0 ≤ x.f ∧ x.f ≤ 7) :
    ∃ w1, UpdP Tryz.prog 104 (.map (some mb)) (.int .i64 a) (qdV x) w w1 ∧ QR w1 b mb site last (aset l a x) ∧ Kp (· = mb) w w1 := by
  obtain ⟨w1, hu, hm, hk⟩ := MapB.upd encInt h.map (int_keyed Tryz.underlying3) Tryz.underlying104 (keyInt ha) (qdV x)
  rw [aset_amap] at hm
  refine ⟨w1, hu, ⟨hk.blk h.blk (fun e => h.ne e.symm), hm, h.ne, fun a' y hy => ?_, fun a' y hy => ?_⟩, hk⟩
  · rw [aget_aset] at hy
    split at hy
    · cases hy; exact ⟨h1.kp hk (fun g o hg e => (h2 g o hg).2 e), h2⟩
    · exact ⟨(h.str a' y hy).1.kp hk (fun g o hg e => ((h.str a' y hy).2 g o hg).2 e), (h.str a' y hy).2⟩
  · rw [aget_aset] at hy
    split at hy
    · cases hy; exact h3
    · exact h.ok a' y hy
theorem QR.del (h : QR w b mb site last l) {a : Int} (ha : I64 a) :
    ∃ w1, BltP Tryz.prog .delete [104, 3] [.map (some mb), .int .i64 a] w w1 ∧ QR w1 b mb site last (adel l a) ∧ Kp (· = mb) w w1 := by
  obtain ⟨w1, hu, hm, hk⟩ := MapB.del encInt h.map (int_keyed Tryz.underlying3) Tryz.underlying104 (keyInt ha)
  have e : adel (amap qdV l) a = amap qdV (adel l a) := by unfold adel amap; rw [List.filter_map]; rfl
  rw [e] at hm
  refine ⟨w1, hu, ⟨hk.blk h.blk (fun e => h.ne e.symm), hm, h.ne, fun a' y hy => ?_, fun a' y hy => ?_⟩, hk⟩
  · rw [aget_adel] at hy
    split at hy
    · cases hy
    · exact ⟨(h.str a' y hy).1.kp hk (fun g o hg e => ((h.str a' y hy).2 g o hg).2 e), (h.str a' y hy).2⟩
  · rw [aget_adel] at hy
    split at hy
    · cases hy
    · exact h.ok a' y hy
theorem QR.len (h : QR w b mb site last l) : LenP Tryz.prog 104 (.map (some mb)) (l.length : Nat) w := by
  obtain ⟨es, c, hb, he⟩ := h.map.blk
  have hl : es.size = l.length := by
    have := congrArg List.length he
    simpa [amap] using this
  constructor
  intro ty
  simp [Builtin.len_, run_underlying Tryz.underlying104, MapKept.run_getObj_map hb, Result.andThen, hl, goInt]
end

theorem newq_any (s : ByteArray) (w : World) :
    Calls Tryz.prog 17 #[.string s] w fun e w' => (siteE s ≠ 0 ∧ e = .returned (.tuple #[.pointer none, .int .i64 (siteE s)]) ∨ siteE s = 0 ∧ ∃ b mb, e = .returned (.tuple #[.pointer (some ⟨b, 0, none⟩), .int .i64 0]) ∧ QR w' b mb s 0 [] ∧ w.heap.size ≤ b ∧ w.heap.size ≤ mb) ∧ K0 w w' := by
  refine vc_newq s w _ ⟨(siteK_any s w).mono fun e w1 ⟨he, k1⟩ => ⟨_, _, he, .of_k0 k1, bsp_intro (fun h => ?_) (fun h => ?_)⟩⟩
  · exact ⟨.inl ⟨show siteE s ≠ 0 by simpa [siteE] using h, rfl⟩, k1⟩
  · refine fun n w2 hn => ⟨.of_kp (hn.kp (fun _ => False)) (fun _ _ h => h), fun n3 W hW => ?_⟩
    have k3 : K0 w2 W := hW.kk rfl
    have hnb := hn.block
    have h3 : w2.heap.size ≤ n3 := hW.fresh 0 rfl rfl
    refine ⟨.inr ⟨show siteE s = 0 by simpa [siteE] using h, n3, n, rfl, ⟨hW.cells 0 rfl, (hn.map).kp k3 (fun h => h), ?_, (fun a x hx => by cases hx), (fun a x hx => by cases hx)⟩, ?_, Nat.le_trans k1.size hn.ge⟩, (k1.trans (hn.kp _)).trans k3⟩
    · have := block_lt hnb; omega
    · have h1 := k1.size; have h2 := (hn.kp (fun _ => False)).size; omega

set_option maxHeartbeats 1000000 in
theorem qapp_any2 (b mb : Nat) (site : ByteArray) (last : Int) (l : List (Int × Qd)) (m : Ml) (p : Option Addr) (c : Nat) (now : Int) (w : World) (hQ : QR w b mb site last l) (hR : StrP w p m.hops) (hD : ∀ g o, p = some ⟨g, o, none⟩ → g ≠ b) (hm : chkM m = 0) (hlast : 0 ≤ last ∧ last ≤ 4611686018427387904) :
    Calls Tryz.prog 51 #[.pointer (some ⟨b, 0, none⟩), mxA m p c, .int .i64 now] w fun e w' => e = .returned (.int .i64 (last + 1)) ∧ (∃ (p' : Option Addr) (c' : Nat), QR w' b mb site (last + 1) (aset l (last + 1) ⟨m, p', c', 0, now⟩) ∧ ∀ g o, p' = some ⟨g, o, none⟩ → w.heap.size ≤ g) ∧ Kp (fun k => k = b ∨ k = mb) w w' := by
  obtain ⟨z1, z2, z3, z4, z5, z6, z7, z8, z9, z10, z11, z12⟩ := chkM_bd hm
  refine vc_qapp b 0 m.fu m.fs m.tu m.ts m.n m.d m.sj p m.hops.length c m.bd now w _ (fun n1 => ?_)
  refine ⟨some mb, fun W hW => cell_at ((hW.kk rfl : K0 w W).blk hQ.blk (fun h => h)) rfl, bsp_intro (fun h => by cases h) (fun _ => ?_)⟩
  refine ⟨last, fun W hW => cell_at ((hW.kk rfl : K0 w W).blk hQ.blk (fun h => h)) rfl, fun W hW => ?_⟩
  have kW : K0 w W := hW.kk rfl
  have hbW := kW.blk hQ.blk (fun h => h)
  have hn1 : W.heap[n1]? = some (.cells #[.string m.fu, .string m.fs, .string m.tu, .string m.ts, .int .i64 m.n, .int .i64 m.d, .string m.sj, .slice p m.hops.length c, .string m.bd] 26 (0, 0)) := hW.cells 0 rfl
  have gn : w.heap.size ≤ n1 := hW.fresh 0 rfl rfl
  have hbn : n1 ≠ b := fun e => by have := block_lt hQ.blk; omega
  have hmn : n1 ≠ mb := fun e => by have := hQ.map.lt; omega
  have eL : IntKind.i64.wrap (last + 1) = last + 1 := wr64 (by omega) (by omega)
  refine ⟨cell_wr hbW (by show 1 < 3; omega), fun w1 hp => ⟨.of_kp hp.kp (fun x hx e => by simp at hx; omega), fun W2 hW2 => ?_⟩⟩
  rw [eL] at hp
  have k2 : K0 w1 W2 := hW2.kk rfl
  have hb1 : w1.heap[b]? = some (.cells #[.string site, .int .i64 (last + 1), .map (some mb)] 106 (0, 0)) := by rw [hp.block hbW]; rfl
  have hQ1 : QR w1 b mb site (last + 1) l := ⟨hb1, (hQ.map.kp kW (fun h => h)).kp hp.kp (fun e => hQ.ne e), hQ.ne, fun a x hx => ⟨((hQ.str a x hx).1.k0 kW).kp hp.kp (fun g o hg e => by have := ((hQ.str a x hx).2 g o hg).1; omega), (hQ.str a x hx).2⟩, hQ.ok⟩
  have hQ2 := hQ1.k0 k2
  have hn2 : W2.heap[n1]? = some (.cells #[.string m.fu, .string m.fs, .string m.tu, .string m.ts, .int .i64 m.n, .int .i64 m.d, .string m.sj, .slice p m.hops.length c, .string m.bd] 26 (0, 0)) := hW2.cells 0 rfl
  have kk12 : Kp (fun k => k = b ∨ k = mb) w W2 := ((Kp.mono kW (fun _ _ h => h.elim)).trans (hp.kp.mono fun _ _ h => .inl h)).trans (Kp.mono k2 (fun _ _ h => h.elim))
  refine ⟨fun wx => K0 W2 wx, .refl _ _, some mb, fun wx k => cell_at (k.blk hQ2.blk (fun h => h)) rfl, last + 1, fun wx k => cell_at (k.blk hQ2.blk (fun h => h)) rfl, m.fu, m.fs, m.tu, m.ts, m.n, m.d, m.sj, p, m.hops.length, c, m.bd, fun wx k => AtL_block (k.blk hn2 (fun h => h)) rfl, ?_⟩
  have hRb : StrP W2 p m.hops := by
    exact ((hR.k0 kW).kp hp.kp (fun g o hg e => hD g o hg e)).k0 k2
  refine ⟨(clone_any m p c W2 hRb (by omega)).mono fun e w3 ⟨⟨p', c', he, ho⟩, k3⟩ => ⟨_, _, _, _, _, _, _, _, _, _, _, he, k3, ?_⟩⟩
  have hfr : ∀ g o, p' = some ⟨g, o, none⟩ → b < g ∧ g ≠ mb := fun g o hg => by
    have := own_ge ho (k := g) (by rw [hg]; rfl)
    have h1 := block_lt hQ2.blk
    have h2 := hQ2.map.lt
    exact ⟨by omega, by omega⟩
  obtain ⟨w4, hu, hQ4, k4⟩ := (hQ2.k0 k3).upd (a := last + 1) ⟨by omega, by omega⟩ ⟨m, p', c', 0, now⟩ (strP_own ho) hfr ⟨hm, own_le ho, by show (0 : Int) ≤ 0; omega, by show (0 : Int) ≤ 7; omega⟩
  refine ⟨w4, hu, .of_kp ((Kp.mono k3 (fun _ _ h => h.elim)).trans k4) (fun x hx e => by simp at hx; omega), last + 1, cell_at hQ4.blk rfl, rfl, ⟨p', c', hQ4, fun g o hg => Nat.le_trans kk12.size (own_ge ho (k := g) (by rw [hg]; rfl))⟩, ?_⟩
  exact (kk12.trans (Kp.mono k3 (fun _ _ h => h.elim))).trans (k4.mono fun _ _ h => .inr h)
theorem qapp_any (b mb : Nat) (site : ByteArray) (last : Int) (l : List (Int × Qd)) (m : Ml) (p : Option Addr) (c : Nat) (now : Int) (w : World) (hQ : QR w b mb site last l) (hR : StrP w p m.hops) (hD : ∀ g o, p = some ⟨g, o, none⟩ → g ≠ b) (hm : chkM m = 0) (hlast : 0 ≤ last ∧ last ≤ 4611686018427387904) :
    Calls Tryz.prog 51 #[.pointer (some ⟨b, 0, none⟩), mxA m p c, .int .i64 now] w fun e w' => e = .returned (.int .i64 (last + 1)) ∧ (∃ (p' : Option Addr) (c' : Nat), QR w' b mb site (last + 1) (aset l (last + 1) ⟨m, p', c', 0, now⟩)) ∧ Kp (fun k => k = b ∨ k = mb) w w' :=
  (qapp_any2 b mb site last l m p c now w hQ hR hD hm hlast).mono fun _ _ ⟨he, ⟨p', c', hq, _⟩, hk⟩ => ⟨he, ⟨p', c', hq⟩, hk⟩

theorem qadd_any2 (b mb : Nat) (site : ByteArray) (last : Int) (l : List (Int × Qd)) (m : Ml) (p : Option Addr) (c : Nat) (now : Int) (w : World) (hQ : QR w b mb site last l) (hR : StrP w p m.hops) (hD : ∀ g o, p = some ⟨g, o, none⟩ → g ≠ b) (hc : m.hops.length ≤ c) (hb : m.bd.size ≤ 4611686018427387904) (hhl : m.hops.length ≤ 4611686018427387904) (hlast : 0 ≤ last ∧ last ≤ 4611686018427387904) :
    Calls Tryz.prog 18 #[.pointer (some ⟨b, 0, none⟩), mxA m p c, .int .i64 now] w fun e w' =>
      (e = .returned (.tuple #[.int .i64 0, .int .i64 (if chkM m ≠ 0 then chkM m else if minB now = false then 13 else 9)]) ∧ (chkM m ≠ 0 ∨ minB now = false ∨ 1024 ≤ l.length) ∧ K0 w w') ∨
      (chkM m = 0 ∧ minB now = true ∧ l.length < 1024 ∧ e = .returned (.tuple #[.int .i64 (last + 1), .int .i64 0]) ∧ (∃ (p' : Option Addr) (c' : Nat), QR w' b mb site (last + 1) (aset l (last + 1) ⟨m, p', c', 0, now⟩) ∧ ∀ g o, p' = some ⟨g, o, none⟩ → w.heap.size ≤ g) ∧ Kp (fun k => k = b ∨ k = mb) w w') := by
  refine vc_qadd b 0 m.fu m.fs m.tu m.ts m.n m.d m.sj p m.hops.length c m.bd now w _ (fun n1 W hW => ?_)
  have kW : K0 w W := hW.kk rfl
  have gn : w.heap.size ≤ n1 := hW.fresh 0 rfl rfl
  refine ⟨(mcheck_any m p c W (hR.k0 kW) hc hb hhl).mono fun e w1 ⟨he, k1⟩ => ⟨_, he, .of_k0 k1, bsp_intro (fun h => ?_) (fun h => ?_)⟩⟩
  · have h : chkM m ≠ 0 := by simpa using h
    rw [if_pos h]; exact .inl ⟨rfl, .inl h, kW.trans k1⟩
  have h0 : chkM m = 0 := by simpa using h
  rw [if_neg (by rw [h0]; decide)]
  refine bsp_intro (fun h => ?_) (fun h => ?_)
  · have h : minB now = false := by simpa using h
    rw [if_pos h]; exact .inl ⟨rfl, .inr (.inl h), kW.trans k1⟩
  have hmin : minB now = true := by simpa using h
  rw [if_neg (by rw [hmin]; decide)]
  have hQ1 := hQ.k0 (kW.trans k1)
  refine ⟨some mb, cell_at hQ1.blk rfl, _, hQ1.len, bsp_intro (fun h => ?_) (fun h => ?_)⟩
  · exact .inl ⟨rfl, .inr (.inr (by simp at h; omega)), kW.trans k1⟩
  · refine ⟨(qapp_any2 b mb site last l m p c now w1 hQ1 (hR.k0 (kW.trans k1)) hD h0 hlast).mono fun e w2 ⟨he, ⟨p', c', hq, hf⟩, k2⟩ => ⟨_, he, .of_kp k2 (fun x hx e => ?_), .inr ⟨h0, hmin, by simp at h; omega, rfl, ⟨p', c', hq, fun g o hg => Nat.le_trans (kW.trans k1).size (hf g o hg)⟩, (Kp.mono (kW.trans k1) (fun _ _ h => h.elim)).trans k2⟩⟩⟩
    simp at hx
    have h1 := block_lt hQ.blk
    have h2 := hQ.map.lt
    omega
theorem qadd_any (b mb : Nat) (site : ByteArray) (last : Int) (l : List (Int × Qd)) (m : Ml) (p : Option Addr) (c : Nat) (now : Int) (w : World) (hQ : QR w b mb site last l) (hR : StrP w p m.hops) (hD : ∀ g o, p = some ⟨g, o, none⟩ → g ≠ b) (hc : m.hops.length ≤ c) (hb : m.bd.size ≤ 4611686018427387904) (hhl : m.hops.length ≤ 4611686018427387904) (hlast : 0 ≤ last ∧ last ≤ 4611686018427387904) :
    Calls Tryz.prog 18 #[.pointer (some ⟨b, 0, none⟩), mxA m p c, .int .i64 now] w fun e w' =>
      (e = .returned (.tuple #[.int .i64 0, .int .i64 (if chkM m ≠ 0 then chkM m else if minB now = false then 13 else 9)]) ∧ (chkM m ≠ 0 ∨ minB now = false ∨ 1024 ≤ l.length) ∧ K0 w w') ∨
      (chkM m = 0 ∧ minB now = true ∧ l.length < 1024 ∧ e = .returned (.tuple #[.int .i64 (last + 1), .int .i64 0]) ∧ (∃ (p' : Option Addr) (c' : Nat), QR w' b mb site (last + 1) (aset l (last + 1) ⟨m, p', c', 0, now⟩)) ∧ Kp (fun k => k = b ∨ k = mb) w w') :=
  (qadd_any2 b mb site last l m p c now w hQ hR hD hc hb hhl hlast).mono fun _ _ h => h.imp id fun ⟨h1, h2, h3, h4, ⟨p', c', hq, _⟩, hk⟩ => ⟨h1, h2, h3, h4, ⟨p', c', hq⟩, hk⟩

set_option maxHeartbeats 1000000 in
theorem qget_any (b mb : Nat) (site : ByteArray) (last : Int) (l : List (Int × Qd)) (a : Int) (w : World) (hQ : QR w b mb site last l) (ha : I64 a) :
    Calls Tryz.prog 21 #[.pointer (some ⟨b, 0, none⟩), .int .i64 a] w fun e w' => (∃ (p' : Option Addr) (c' : Nat), e = .returned (.tuple #[mxA ((aget l a).getD qz).m p' c', .int .i64 ((aget l a).getD qz).due, .bool (aget l a).isSome]) ∧ (aget l a = none → p' = none ∧ c' = 0) ∧ w'.ownsRow w.heap.size 9 1 (.slice p' ((aget l a).getD qz).m.hops.length c') ((aget l a).getD qz).m.hops.length (((aget l a).getD qz).m.hops.map .string)) ∧ K0 w w' := by
  refine vc_qget b 0 a w _ (fun n => ?_)
  refine ⟨some mb, fun W hW => cell_at ((hW.kk rfl : K0 w W).blk hQ.blk (fun h => h)) rfl, ?_⟩
  cases hg : aget l a with
  | none =>
    refine ⟨_, _, _, _, _, _, _, _, _, _, _, _, _, false, fun W hW => by have := (hQ.k0 (hW.kk rfl : K0 w W)).look ha; rw [hg] at this; exact this, fun n2 => ?_⟩
    refine bsp_intro (fun _ => fun W hW => ?_) (fun h => by cases h)
    exact ⟨⟨none, 0, rfl, fun _ => ⟨rfl, rfl⟩, World.ownsRow_nil _ _ _ _⟩, hW.kk rfl⟩
  | some x =>
    refine ⟨_, _, _, _, _, _, _, _, _, _, _, _, _, true, fun W hW => by have := (hQ.k0 (hW.kk rfl : K0 w W)).look ha; rw [hg] at this; exact this, fun n2 => ?_⟩
    refine bsp_intro (fun h => by cases h) (fun _ => fun W hW => ?_)
    have kW : K0 w W := hW.kk rfl
    have hc2 : W.heap[n2]? = some (.cells #[.string x.m.fu, .string x.m.fs, .string x.m.tu, .string x.m.ts, .int .i64 x.m.n, .int .i64 x.m.d, .string x.m.sj, .slice x.p x.m.hops.length x.c, .string x.m.bd, .int .i64 x.f, .int .i64 x.due] 110 (0, 0)) := hW.cells 0 rfl
    have hc1 : W.heap[n]? = some (.cells #[.string ⟨#[]⟩, .string ⟨#[]⟩, .string ⟨#[]⟩, .string ⟨#[]⟩, .int .i64 0, .int .i64 0, .string ⟨#[]⟩, .slice none 0 0, .string ⟨#[]⟩] 26 (0, 0)) := hW.cells 1 rfl
    have gn : w.heap.size ≤ n := hW.fresh 1 rfl rfl
    have hne : n2 ≠ n := hW.apart 0 1 rfl rfl (by decide)
    obtain ⟨z1, z2, z3, z4, z5, z6, z7, z8, z9, z10, z11, z12⟩ := chkM_bd (hQ.ok a x hg).1
    refine ⟨fun wx => Kp (fun k => k = n) W wx, .refl _ _, _, _, _, _, _, _, _, _, _, _, _, fun wx k => AtL_block (k.blk hc2 (fun e => hne e)) rfl, x.due, fun wx k => cell_at (k.blk hc2 (fun e => hne e)) rfl, ?_⟩
    refine ⟨(clone_any x.m x.p x.c W ((hQ.str a x hg).1.k0 kW) (by omega)).mono fun e w3 ⟨⟨p', c', he, ho⟩, k3⟩ => ⟨_, _, _, _, _, _, _, _, _, _, _, he, Kp.mono k3 (fun _ _ h => h.elim), ?_⟩⟩
    have hc3 := k3.blk hc1 (fun h => h)
    refine ⟨WrL_block hc3 (Nat.le_refl 9), fun w4 hp => ⟨(Kp.mono k3 (fun _ _ h => h.elim)).trans hp.kp, ⟨by rw [hp.size]; exact k3.size, fun m hm hlt' => ?_⟩, _, _, _, _, _, _, _, _, _, _, _, AtL_block (hp.full hc3 rfl) rfl, ⟨p', c', rfl, (fun h => by cases h), ?_⟩, put_k0 (kW.trans k3) hp gn⟩⟩
    · obtain rfl : m = n2 := by simpa using hm
      rw [hp.blk (k3.blk hc2 (fun h => h)) hne, hc2]
    · refine own_base (owns_kp ho hp.kp (fun k hk e => ?_)) kW.size
      have := own_ge ho hk
      have := block_lt hc1
      omega

/-- What a failed delivery leaves: the answer, the new entry or the bounce. -/
def failD (x : Qd) (now : Int) : Int := now + 5 * 2 ^ x.f.toNat
end Go.Proofs.YtmlmdljnfokebaaGreatDoor

/- Ranges over maps: an iterator's block, what is left, a step. Generic: no program, no condition. -/
namespace Go.Proofs.YtmlmdljnfokebaaGreatDoor
open Go.RowKit Go.Maps

/-- How many entries are left. -/
def leftN (w : World) (r b : Nat) : Nat := match w.heap[r]?, w.heap[b]? with
  | some (.mapIter _ _ seen _), some (.map es _) => (leftOf es seen).size
  | _, _ => 0
/-- Block r holds an iterator over the map in block b; todo is left. -/
structure RngB {α : Type} (enc : α → Value) (w : World) (r b : Nat) (todo : List (α × Value)) : Prop where
  h : ∃ es clock since c0 seen, w.heap[b]? = some (.map es clock) ∧ w.heap[r]? = some (.mapIter (some b) since seen c0) ∧ (∀ x ∈ es.toList, x.born < since) ∧ since ≤ c0 ∧ since ≤ clock ∧ (es.toList.map (·.born)).Nodup ∧
    (leftOf es seen).toList.map (fun e => (e.key, e.val)) = todo.map (fun p => (enc p.1, p.2))
section
variable {α : Type} {P : Program} {k t e : TypeId} {enc : α → Value} {w w1 : World} {r b : Nat} {l todo : List (α × Value)}
theorem RngB.kp {M : Nat → Prop} {w' : World} (h : RngB enc w r b todo) (hk : Kp M w w') (hr : ¬ M r) (hb : ¬ M b) : RngB enc w' r b todo := by
  obtain ⟨es, cl, si, c0, se, h1, h2, h3⟩ := h.h
  exact ⟨es, cl, si, c0, se, hk.blk h1 hb, hk.blk h2 hr, h3⟩
theorem RngB.left (h : RngB enc w r b todo) : leftN w r b = todo.length := by
  obtain ⟨es, cl, si, c0, se, h1, h2, h3, h4, h5, h6, h7⟩ := h.h
  unfold leftN
  rw [h1, h2]
  have := congrArg List.length h7
  simpa using this
theorem MapB.range (h : MapB P k enc w b l) (ht : P.underlying t = some (.map k e)) : ∃ n w1, RngP P t (.map (some b)) n w w1 ∧ RngB enc w1 n b l ∧ K0 w w1 ∧ w.heap.size ≤ n ∧ n < w1.heap.size := by
  obtain ⟨es, c, hb, he⟩ := h.blk
  obtain ⟨h1, h2⟩ := h.brn es c hb
  have hk : K0 w (w.alloc (.mapIter (some b) c #[] c)) := ⟨rfl, rfl, rfl, by simp, fun i hi _ => Below.heap_alloc _ _ _ hi⟩
  refine ⟨w.heap.size, w.alloc (.mapIter (some b) c #[] c), ⟨run_range_map w t k e b es c ht hb⟩, ⟨es, c, c, c, #[], hk.blk hb (fun h => h), heap_alloc_new _ _, h2, Nat.le_refl _, Nat.le_refl _, h1, ?_⟩, hk, Nat.le_refl _, by simp⟩
  rw [← he]
  unfold leftOf
  rw [Array.filter_eq_self.2 (fun x _ => by simp)]
theorem left_erase {L : List MapEntry} (hn : (L.map (·.born)).Nodup) {j : Nat} {x : MapEntry} (hj : L[j]? = some x) : L.filter (fun y => !(y.born == x.born)) = L.eraseIdx j := by
  induction L generalizing j with
  | nil => simp at hj
  | cons y r ih =>
    have hn' : y.born ∉ r.map (·.born) ∧ (r.map (·.born)).Nodup := List.nodup_cons.1 hn
    cases j with
    | zero =>
      have e : y = x := by simpa using hj
      subst e
      rw [List.filter_cons, if_neg (by simp), List.eraseIdx_cons_zero]
      refine List.filter_eq_self.2 fun z hz => ?_
      have : z.born ≠ y.born := fun e => hn'.1 (by rw [← e]; exact List.mem_map.2 ⟨z, hz, rfl⟩)
      simpa using this
    | succ j =>
      have hj' : r[j]? = some x := by simpa using hj
      have : y.born ≠ x.born := fun e => hn'.1 (by rw [e]; exact List.mem_map.2 ⟨x, List.mem_of_getElem? hj', rfl⟩)
      rw [List.filter_cons, if_pos (by simpa using this), List.eraseIdx_cons_succ, ih hn'.2 hj']
theorem map_erase' {β γ : Type} (f : β → γ) : ∀ (L : List β) (j : Nat), (L.eraseIdx j).map f = (L.map f).eraseIdx j
  | [], _ => by simp
  | _ :: _, 0 => rfl
  | x :: L, j + 1 => by simp [List.eraseIdx_cons_succ, map_erase' f L j]
theorem sb_same {w : World} {r : Nat} {x : Obj} (h : w.heap[r]? = some x) (o : Obj) : (ChangeMaps.setBlock w r o).heap[r]? = some o := by
  have hlt : r < w.heap.size := by
    rcases Nat.lt_or_ge r w.heap.size with h' | h'
    · exact h'
    · rw [Array.getElem?_eq_none h'] at h; cases h
  simp [ChangeMaps.setBlock, hlt]
theorem sb_other (w : World) (r : Nat) (o : Obj) {i : Nat} (h : i ≠ r) : (ChangeMaps.setBlock w r o).heap[i]? = w.heap[i]? := by
  simp [ChangeMaps.setBlock, Ne.symm h]
/-- A step. -/
theorem RngB.next (h : RngB enc w r b todo) :
    (todo = [] ∧ NxtP P (.pointer (some ⟨r, 0, none⟩)) false [] w w) ∨
    ∃ (j : Nat) (p : α × Value) (w1 : World), todo[j]? = some p ∧ NxtP P (.pointer (some ⟨r, 0, none⟩)) true [enc p.1, p.2] w w1 ∧ EntP P (.pointer (some ⟨r, 0, none⟩)) (.tuple #[enc p.1, p.2]) w1 ∧ RngB enc w1 r b (todo.eraseIdx j) ∧ Kp (· = r) w w1 := by
  obtain ⟨es, cl, si, c0, se, h1, h2, h3, h4, h5, h6, h7⟩ := h.h
  have hlen := congrArg List.length h7
  simp only [List.length_map] at hlen
  rcases run_next_at (P := P) w 0 r b si c0 se es cl h2 h1 h3 h4 with ⟨h8, _⟩ | ⟨x, hx, w1, hw1, hrun⟩
  · refine .inl ⟨List.eq_nil_of_length_eq_zero (by rw [← hlen]; simpa using h8), ⟨fun ty => ?_⟩⟩
    rcases run_next_at (P := P) w ty r b si c0 se es cl h2 h1 h3 h4 with ⟨_, h9⟩ | ⟨x, hx, _⟩
    · exact h9
    · have : leftOf es se = #[] := Array.eq_empty_of_size_eq_zero h8
      rw [this] at hx; simp at hx
  · obtain ⟨j, hj, hjx⟩ := List.getElem_of_mem hx
    have hjx' : (leftOf es se).toList[j]? = some x := by rw [List.getElem?_eq_getElem hj, hjx]
    have hp : (todo.map (fun p => (enc p.1, p.2)))[j]? = some (x.key, x.val) := by rw [← h7, List.getElem?_map, hjx']; rfl
    rw [List.getElem?_map, Option.map_eq_some_iff] at hp
    obtain ⟨p, hp, hpe⟩ := hp
    simp only [Prod.mk.injEq] at hpe
    have hkw : Kp (· = r) w (ChangeMaps.setBlock w1 r (.mapIter (some b) si (se.push x.born) cl)) := by
      have hw : Kp (· = r) w w1 := by
        rcases hw1 with rfl | rfl
        · exact .refl _ _
        · exact ⟨rfl, rfl, rfl, Nat.le_refl _, fun _ _ _ => rfl⟩
      have hr1 : w1.heap[r]? = some (.mapIter (some b) si se c0) := by rcases hw1 with rfl | rfl <;> exact h2
      exact hw.trans ⟨rfl, rfl, rfl, by simp [ChangeMaps.setBlock], fun i _ hi => sb_other _ _ _ hi⟩
    have hrb : b ≠ r := fun e => by rw [e, h2] at h1; cases h1
    have hr1 : w1.heap[r]? = some (.mapIter (some b) si se c0) := by rcases hw1 with rfl | rfl <;> exact h2
    have hb1 := hkw.blk h1 hrb
    have hr2 : (ChangeMaps.setBlock w1 r (.mapIter (some b) si (se.push x.born) cl)).heap[r]? = some (.mapIter (some b) si (se.push x.born) cl) := sb_same hr1 _
    refine .inr ⟨j, p, _, hp, ⟨fun ty => ?_⟩, ⟨?_⟩, ⟨es, cl, si, cl, se.push x.born, hb1, hr2, h3, h5, h5, h6, ?_⟩, hkw⟩
    · rw [hpe.1, hpe.2]; exact hrun
    · rw [hpe.1, hpe.2]; exact run_entry_at _ r b si se es cl x hr2 hb1 (mem_left hx).1 h6
    · rw [map_erase', ← h7, ← map_erase']
      congr 1
      have hL : ((leftOf es se).toList.map (·.born)).Nodup := by
        unfold leftOf
        rw [Array.toList_filter]
        exact h6.sublist (List.filter_sublist.map _)
      rw [← left_erase hL hjx']
      unfold leftOf
      rw [Array.toList_filter, Array.toList_filter, List.filter_filter]
      refine List.filter_congr fun y _ => ?_
      rw [contains_push]
      cases se.contains y.born <;> simp
end

end Go.Proofs.YtmlmdljnfokebaaGreatDoor

/- Sorting of a row whose elements are one cell: the world behind slices.SortFunc. Generic: no program, no condition. -/
namespace Go.Proofs.YtmlmdljnfokebaaGreatDoor
open Go.RowKit Go.Sort

theorem grow_of1 {w w' : World} (h : K0 w w') (hd : w.drawn ≤ w'.drawn) : ∃ q os', w' = grow (w.drewN q) os' := by
  refine ⟨w'.drawn - w.drawn, w'.heap.extract w.heap.size w'.heap.size, ?_⟩
  have hh : w'.heap = w.heap ++ w'.heap.extract w.heap.size w'.heap.size := by
    apply Array.ext_getElem?
    intro i
    rw [Array.getElem?_append]
    split
    · rename_i hi; exact h.block i hi (fun h => h)
    · rename_i hi
      rw [Array.getElem?_extract]
      have := h.size
      by_cases hl : i < w'.heap.size
      · rw [if_pos (by omega)]; congr 1; omega
      · rw [if_neg (by omega)]; exact Array.getElem?_eq_none (by omega)
  have h1 := h.os
  have h2 := h.tape
  have h3 := h.output
  obtain ⟨hp, tp, dr, os, out⟩ := w
  obtain ⟨hp', tp', dr', os', out'⟩ := w'
  simp only at hh h1 h2 h3 hd
  subst h1 h2 h3
  simp only [grow, World.drewN]
  congr 1
  omega

theorem sort1_kp {α : Type} [Inhabited α] (enc : α → Value) (w : World) (blk off m : Nat) (dk : Array α) (os : Array Obj) : Kp (· = blk) w (sortWorld enc w blk off m dk os) := by
  have hs : (sortWorld enc w blk off m dk os).heap = ((Sort.ahead w m).heap.modify blk (onCells (putCells enc off dk))) ++ os := rfl
  refine ⟨rfl, rfl, rfl, by rw [hs, Array.size_append, Array.size_modify]; show w.heap.size ≤ w.heap.size + _; omega, fun i hi hne => ?_⟩
  rw [hs, Array.getElem?_append_left (by simpa [Sort.ahead] using hi), Array.getElem?_modify, if_neg (fun e => hne e.symm)]
  rfl
theorem sort1_blk {α : Type} [Inhabited α] (enc : α → Value) (w : World) (blk off m : Nat) (dk : Array α) (os : Array Obj) {cur : Array Value} {t : TypeId} (h : w.heap[blk]? = some (.cells cur t (0, 0))) : ∃ cur' : Array Value, cur'.size = cur.size ∧ (sortWorld enc w blk off m dk os).heap[blk]? = some (.cells cur' t (0, 0)) := by
  have hlt := block_lt h
  refine ⟨putCells enc off dk cur, by simp [putCells], ?_⟩
  show (((Sort.ahead w m).heap.modify blk (onCells (putCells enc off dk))) ++ os)[blk]? = _
  rw [Array.getElem?_append_left (by simpa [Sort.ahead] using hlt), Array.getElem?_modify, if_pos rfl]
  have e : (Sort.ahead w m).heap[blk]? = w.heap[blk]? := rfl
  rw [e, h]
  rfl
/-- A row of one-cell elements, opened. -/
theorem own_holds {α : Type} [Inhabited α] (enc : α → Value) {w : World} {base : Nat} {t : TypeId} {p : Option Addr} {c : Nat} {cs : List α} (ho : w.ownsRow base t 1 (.slice p cs.length c) cs.length (cs.map enc)) (h0 : 0 < cs.length) :
    ∃ (g : Nat) (cur : Array Value), p = some ⟨g, 0, none⟩ ∧ base ≤ g ∧ w.heap[g]? = some (.cells cur t (0, 0)) ∧ cs.length ≤ c ∧ c ≤ maxLen ∧ cur.size = c * 1 ∧ Holds enc w g 0 cs.toArray := by
  rcases ho.2 with ⟨_, hz⟩ | ⟨g, cap, cur, he, hbase, hg, hcap, hmax, hcs, htk⟩
  · omega
  simp only [Value.slice.injEq, true_and] at he
  obtain ⟨rfl, rfl⟩ := he
  refine ⟨g, cur, rfl, hbase, hg, hcap, hmax, hcs, fun j hj => ⟨?_, frozen_block hg _⟩⟩
  have hj' : j < cs.length := by simpa using hj
  rw [Nat.zero_add, cell_block hg]
  have e : (cur.toList.take (cs.length * 1))[j]? = some (enc cs[j]) := by rw [htk, List.getElem?_map, List.getElem?_eq_getElem hj']; rfl
  rw [List.getElem?_take, if_pos (by omega), Array.getElem?_toList] at e
  rw [e, getElem!_pos cs.toArray j hj]
  simp
/-- The row behind the sort. -/
theorem sort1_post {α : Type} [Inhabited α] (enc : α → Value) {w : World} {base g c : Nat} {t : TypeId} {cur : Array Value} {cs : List α} (hb : base ≤ g) (hg : w.heap[g]? = some (.cells cur t (0, 0))) (hcap : cs.length ≤ c) (hmax : c ≤ maxLen) (hcs : cur.size = c * 1) (hH : Holds enc w g 0 cs.toArray)
    {d : Array α} {m : Nat} {os : Array Obj} (hp : PermIn 0 cs.toArray.size cs.toArray d) :
    d.toList.Perm cs ∧ (sortWorld enc w g 0 m d os).ownsRow base t 1 (.slice (some ⟨g, 0, none⟩) d.toList.length c) d.toList.length (d.toList.map enc) := by
  have hs1 : d.size = cs.length := by simpa using hp.1
  have hp' : d.toList.Perm cs := by
    have h1 := hp.1
    have h2 := hp.2.2
    rw [show d.extract 0 cs.toArray.size = d from by rw [← h1]; exact Array.extract_size] at h2
    rw [show cs.toArray.extract 0 cs.toArray.size = cs.toArray from Array.extract_size] at h2
    exact h2
  refine ⟨hp', ?_⟩
  have hlen : d.toList.length = cs.length := hp'.length_eq
  obtain ⟨cur', hc1, hc2⟩ := sort1_blk enc w g 0 m d os hg
  refine ⟨by simp, .inr ⟨g, c, cur', rfl, hb, hc2, by omega, hmax, by rw [hc1, hcs], ?_⟩⟩
  have hHo := holds_sortWorld enc w g 0 m cs.toArray d os (block_lt hg) hH hp.1
  apply List.ext_getElem?
  intro j
  rw [List.getElem?_take]
  rcases Nat.lt_or_ge j d.toList.length with ht | ht
  · rw [if_pos (by omega)]
    have h1 := (hHo j (by simpa using ht)).1
    rw [Nat.zero_add, cell_block hc2, getElem!_pos d j (by simpa using ht)] at h1
    rw [Array.getElem?_toList, h1, List.getElem?_map, List.getElem?_eq_getElem ht]
    simp
  · rw [if_neg (by omega), List.getElem?_eq_none (by simpa using ht)]
theorem sorted_pw {α : Type} [Inhabited α] {lt : α → α → Bool} {d : Array α} {n : Nat} (hn : d.size = n) (h : SortedIn lt 0 n d) : d.toList.Pairwise fun x y => lt y x = false := by
  rw [List.pairwise_iff_getElem]
  intro i j hi hj hij
  have := h i j (Nat.zero_le _) hij (by rw [← hn]; simpa using hj)
  have e1 : d[i]! = d.toList[i] := by rw [getElem!_pos d i (by simpa using hi)]; simp
  have e2 : d[j]! = d.toList[j] := by rw [getElem!_pos d j (by simpa using hj)]; simp
  rw [e1, e2] at this
  exact this

end Go.Proofs.YtmlmdljnfokebaaGreatDoor

/- Rows and blocks of different types are apart. Generic: no program, no condition. -/
namespace Go.Proofs.YtmlmdljnfokebaaGreatDoor
open Go.RowKit

theorem own_not {w : World} {base : Nat} {e t : TypeId} {size : Nat} {v : Value} {n : Nat} {xs : List Value} (h : w.ownsRow base e size v n xs) {k : Nat} {c : Array Value} {f : Nat × Nat} (hk : w.heap[k]? = some (.cells c t f)) (hne : (t == e) = false) : ¬ v.ownBlock = some k := fun he => by
  obtain ⟨c', h1⟩ := own_type h he
  rw [hk] at h1
  simp at h1
  rw [h1.2.1] at hne
  simp at hne
theorem own_loc {z : Nat} {T : List Blk} {w W : World} {base : Nat} {e : TypeId} {size : Nat} {v : Value} {n : Nat} {xs : List Value} (ho : w.ownsRow base e size v n xs) (hL : Loc z T w W) (hT : ∀ b ∈ T, ¬ v.ownBlock = some b.n) : W.ownsRow base e size v n xs :=
  owns_kp ho hL.kp (fun k hk ⟨x, hx, h3, h4⟩ => hT x hx (by rw [hk]; first | rw [h4] | rw [← h4]))
theorem src_str {w : World} {p : Option Addr} {l : List ByteArray} (h : StrP w p l) : SrcP w p (l.map .string) := by
  refine ⟨fun j u hj => ?_, fun u hu => ?_⟩
  · rw [List.getElem?_map] at hj
    cases hz : l[j]? with
    | none => rw [hz] at hj; cases hj
    | some z => rw [hz] at hj; cases hj; exact h j z hz
  · obtain ⟨z, _, rfl⟩ := List.mem_map.1 hu; rfl
theorem blk_ne {w : World} {a b : Nat} {c c' : Array Value} {t t' : TypeId} {f f' : Nat × Nat} (h : w.heap[a]? = some (.cells c t f)) (h' : w.heap[b]? = some (.cells c' t' f')) (hne : (t == t') = false) : a ≠ b := fun e => by
  subst e
  rw [h] at h'
  simp at h'
  rw [h'.2.1] at hne
  simp at hne

end Go.Proofs.YtmlmdljnfokebaaGreatDoor

/- The formulas of functions by the symbolic evaluator, and that each gives the call's contract. Written by a program (gen.py). No condition. -/
namespace Go.Proofs.YtmlmdljnfokebaaGreatDoor
set_option maxRecDepth 100000
set_option linter.unusedVariables false

def VC_qdue (b : Nat) (o : Nat) (now : Int) (w : World) (R : Ending → World → Prop) : Prop :=
 ∀ (n : Nat),
 ∃ (x : Option Nat),
 (∀ (W : World),
 Loc w.heap.size [Blk.mk n 46 [Value.pointer (some (Addr.mk b o none))] 2] w W →
 W.cell? (Addr.mk b (o + 2) none) = some (Value.map x)) ∧
 ∀ (W : World),
 Loc w.heap.size [Blk.mk n 46 [Value.pointer (some (Addr.mk b o none))] 2] w W →
 ∃ (n_1 : Nat),
 ∃ (w1 : World),
 RngP Tryz.prog 104 (Value.map x) n_1 W w1 ∧
 KeptL [n] W w1 ∧
 ∃ (I : List Value → World → Prop),
 ∃ (m : List Value → World → Nat),
 I [Value.slice none 0 0] w1 ∧
 ∀ (p : Option Addr) (n_2 c : Nat) (w' : World),
 I [Value.slice p n_2 c] w' →
 Loc w.heap.size [Blk.mk n 46 [Value.pointer (some (Addr.mk b o none))] 0] w' w' →
 ∃ (b_1 : Bool),
 ∃ (r : List Value),
 ∃ (w1 : World),
 NxtP Tryz.prog (Value.pointer (some (Addr.mk n_1 0 none))) b_1 r w' w1 ∧
 KeptL [n] w' w1 ∧
 bsp b_1
 (∃ (x : Int),
 ∃ (x_1 : ByteArray),
 ∃ (x_2 : ByteArray),
 ∃ (x_3 : ByteArray),
 ∃ (x_4 : ByteArray),
 ∃ (x_5 : Int),
 ∃ (x_6 : Int),
 ∃ (x_7 : ByteArray),
 ∃ (p_1 : Option Addr),
 ∃ (n_3 : Nat),
 ∃ (c_1 : Nat),
 ∃ (x_8 : ByteArray),
 ∃ (x_9 : Int),
 ∃ (x_10 : Int),
 EntP Tryz.prog (Value.pointer (some (Addr.mk n_1 0 none)))
 (Value.tuple
 #[Value.int IntKind.i64 x,
 Value.agg
 #[Value.string x_1, Value.string x_2, Value.string x_3, Value.string x_4,
 Value.int IntKind.i64 x_5, Value.int IntKind.i64 x_6, Value.string x_7,
 Value.slice p_1 n_3 c_1, Value.string x_8, Value.int IntKind.i64 x_9,
 Value.int IntKind.i64 x_10]])
 w1 ∧
 ∀ (n_4 : Nat),
 bsp (decide (x_10 ≤ now))
 (∀ (n_5 : Nat) (W : World),
 Loc w.heap.size
 [Blk.mk n 46 [Value.pointer (some (Addr.mk b o none))] 0,
 Blk.mk n_5 3 [Value.int IntKind.i64 x] 2,
 Blk.mk n_4 110
 [Value.string x_1, Value.string x_2, Value.string x_3, Value.string x_4,
 Value.int IntKind.i64 x_5, Value.int IntKind.i64 x_6, Value.string x_7,
 Value.slice p_1 n_3 c_1, Value.string x_8, Value.int IntKind.i64 x_9,
 Value.int IntKind.i64 x_10]
 (wrM 2)]
 w1 W →
 ∃ (base : Nat),
 ∃ (xs : List Value),
 W.ownsRow base 3 1 (Value.slice p n_2 c) n_2 xs ∧
 n_2 + 1 ≤ 9223372036854775807 ∧
 (n_2 + 1) * 8 ≤ 140737488355328 ∧
 base ≤ W.heap.size ∧
 ∀ (p' : Option Addr) (c' : Nat) (w'_1 : World),
 w'_1.ownsRow base 3 1 (Value.slice p' (n_2 + 1) c') (n_2 + 1)
 (xs ++ [Value.int IntKind.i64 x]) →
 W.grownBy w'_1 (Value.slice p n_2 c).ownBlock →
 (n_2 + 1 ≤ c → p' = p ∧ c' = c) →
 KeptL [n, n_4] W w'_1 ∧
 I [Value.slice p' (n_2 + 1) c'] w'_1 ∧
 m [Value.slice p' (n_2 + 1) c'] w'_1 < m [Value.slice p n_2 c] w')
 (∀ (W : World),
 Loc w.heap.size
 [Blk.mk n 46 [Value.pointer (some (Addr.mk b o none))] 0,
 Blk.mk n_4 110
 [Value.string x_1, Value.string x_2, Value.string x_3, Value.string x_4,
 Value.int IntKind.i64 x_5, Value.int IntKind.i64 x_6, Value.string x_7,
 Value.slice p_1 n_3 c_1, Value.string x_8, Value.int IntKind.i64 x_9,
 Value.int IntKind.i64 x_10]
 (wrM 2)]
 w1 W →
 I [Value.slice p n_2 c] W ∧
 m [Value.slice p n_2 c] W < m [Value.slice p n_2 c] w'))
 (CallsS Tryz.prog 54
 #[Value.slice p n_2 c, Value.func (Fn.func 55) #[] #[Value.pointer (some (Addr.mk n 0 none))]] w1
 fun (e : Ending) (w' : World) =>
 e = Ending.returned (Value.tuple #[]) ∧
 KeptL [] w1 w' ∧ R (Ending.returned (Value.slice p n_2 c)) w')
theorem vc_qdue (b : Nat) (o : Nat) (now : Int) (w : World) (R : Ending → World → Prop) (h : VC_qdue b o now w R) : Calls Tryz.prog 22 ([Value.pointer
    (some { block := b, off := o }),
  Value.int IntKind.i64 now] : List Value).toArray w R := by
  have e : execR2 { P := Tryz.prog, loops := [(5, [(5, Ck.slice)])], pur := purM, tails := [], joins := [], boxes := [], rngs := [(14, 104)] } Tryz.f22.results.toList R (Tryz.f22.body.getD .skip) (initF [Value.pointer
    (some { block := b, off := o }),
  Value.int IntKind.i64
    now] (Tryz.f22.ntmps - ([Value.pointer (some { block := b, off := o }),
  Value.int IntKind.i64 now] : List Value).length)) w = VC_qdue b o now w R := by kernel_rfl
  have hb : Tryz.f22.body = some (Tryz.f22.body.getD .skip) := by kernel_rfl
  exact calls_of_exec2' (P := Tryz.prog) (fn := Tryz.f22) (c := Tryz.f22.body.getD .skip) (args := [Value.pointer
    (some { block := b, off := o }),
  Value.int IntKind.i64 now]) (w := w) (R := R) purM_ok Tryz.func22 hb e h

def VC_qcmp (x : Int) (y : Int) (b : Nat) (o : Nat) (w : World) (R : Ending → World → Prop) : Prop :=
 ∃ (S : World → Prop),
 S w.drew ∧
 ∃ (x_1 : Option Addr),
 (∀ (w' : World), S w' → w'.cell? (Addr.mk b o none) = some (Value.pointer x_1)) ∧
 nn true x_1 fun (b_1 o_1 : Nat) =>
 ∃ (x_2 : Option Nat),
 (∀ (w' : World), S w' → w'.cell? (Addr.mk b_1 (o_1 + 2) none) = some (Value.map x_2)) ∧
 ∃ (x_3 : ByteArray),
 ∃ (x_4 : ByteArray),
 ∃ (x_5 : ByteArray),
 ∃ (x_6 : ByteArray),
 ∃ (x_7 : Int),
 ∃ (x_8 : Int),
 ∃ (x_9 : ByteArray),
 ∃ (p : Option Addr),
 ∃ (n : Nat),
 ∃ (c : Nat),
 ∃ (x_10 : ByteArray),
 ∃ (x_11 : Int),
 ∃ (x_12 : Int),
 (∀ (w' : World),
 S w' →
 LookP Tryz.prog 104 (Value.map x_2) (Value.int IntKind.i64 x) false
 (Value.agg
 #[Value.string x_3, Value.string x_4, Value.string x_5, Value.string x_6,
 Value.int IntKind.i64 x_7, Value.int IntKind.i64 x_8, Value.string x_9, Value.slice p n c,
 Value.string x_10, Value.int IntKind.i64 x_11, Value.int IntKind.i64 x_12])
 w') ∧
 ∃ (x_13 : Option Addr),
 (∀ (w' : World), S w' → w'.cell? (Addr.mk b o none) = some (Value.pointer x_13)) ∧
 nn true x_13 fun (b o : Nat) =>
 ∃ (x_14 : Option Nat),
 (∀ (w' : World), S w' → w'.cell? (Addr.mk b (o + 2) none) = some (Value.map x_14)) ∧
 ∃ (x_15 : ByteArray),
 ∃ (x_16 : ByteArray),
 ∃ (x_17 : ByteArray),
 ∃ (x_18 : ByteArray),
 ∃ (x_19 : Int),
 ∃ (x_20 : Int),
 ∃ (x_21 : ByteArray),
 ∃ (p : Option Addr),
 ∃ (n : Nat),
 ∃ (c : Nat),
 ∃ (x_22 : ByteArray),
 ∃ (x_23 : Int),
 ∃ (x_24 : Int),
 (∀ (w' : World),
 S w' →
 LookP Tryz.prog 104 (Value.map x_14) (Value.int IntKind.i64 y) false
 (Value.agg
 #[Value.string x_15, Value.string x_16, Value.string x_17,
 Value.string x_18, Value.int IntKind.i64 x_19, Value.int IntKind.i64 x_20,
 Value.string x_21, Value.slice p n c, Value.string x_22,
 Value.int IntKind.i64 x_23, Value.int IntKind.i64 x_24])
 w') ∧
 CallsS Tryz.prog 57 #[Value.int IntKind.i64 x_12, Value.int IntKind.i64 x_24]
 w.drew fun (e : Ending) (w' : World) =>
 ∃ (x_25 : Int),
 e = Ending.returned (Value.int IntKind.i64 x_25) ∧
 CallsS Tryz.prog 57 #[Value.int IntKind.i64 x, Value.int IntKind.i64 y] w'
 fun (e : Ending) (w' : World) =>
 ∃ (x : Int),
 e = Ending.returned (Value.int IntKind.i64 x) ∧
 ∀ (n : Nat) (w1 : World),
 NewB w'
 (Obj.cells #[Value.int IntKind.i64 x_25, Value.int IntKind.i64 x] 3) n
 w1 →
 CallsS Tryz.prog 56 #[Value.slice (some (Addr.mk n 0 none)) 2 2] w1
 fun (e : Ending) (w' : World) =>
 ∃ (x : Int),
 e = Ending.returned (Value.int IntKind.i64 x) ∧
 R (Ending.returned (Value.int IntKind.i64 x)) w'
theorem vc_qcmp (x : Int) (y : Int) (b : Nat) (o : Nat) (w : World) (R : Ending → World → Prop) (h : VC_qcmp x y b o w R) : Calls Tryz.prog 55 ([Value.int
    IntKind.i64 x,
  Value.int IntKind.i64 y, Value.pointer (some { block := b, off := o })] : List Value).toArray w R := by
  have e : execR { P := Tryz.prog, loops := [], pur := purM, tails := [(1, 14)], joins := [], boxes := [] } Tryz.f55.results.toList R (Tryz.f55.body.getD .skip) (initF [Value.int
    IntKind.i64 x,
  Value.int IntKind.i64 y,
  Value.pointer
    (some
      { block := b,
        off :=
          o })] (Tryz.f55.ntmps - ([Value.int IntKind.i64 x, Value.int IntKind.i64 y,
  Value.pointer (some { block := b, off := o })] : List Value).length)) w = VC_qcmp x y b o w R := by kernel_rfl
  have hb : Tryz.f55.body = some (Tryz.f55.body.getD .skip) := by kernel_rfl
  exact calls_of_exec' (P := Tryz.prog) (fn := Tryz.f55) (c := Tryz.f55.body.getD .skip) (args := [Value.int IntKind.i64
    x,
  Value.int IntKind.i64 y, Value.pointer (some { block := b, off := o })]) (w := w) (R := R) purM_ok Tryz.func55 hb e h

def VC_qdone (b : Nat) (o : Nat) (x : Int) (w : World) (R : Ending → World → Prop) : Prop :=
 ∃ (x_1 : Option Nat),
 w.cell? (Addr.mk b (o + 2) none) = some (Value.map x_1) ∧
 ∃ (x_2 : ByteArray),
 ∃ (x_3 : ByteArray),
 ∃ (x_4 : ByteArray),
 ∃ (x_5 : ByteArray),
 ∃ (x_6 : Int),
 ∃ (x_7 : Int),
 ∃ (x_8 : ByteArray),
 ∃ (p : Option Addr),
 ∃ (n : Nat),
 ∃ (c : Nat),
 ∃ (x_9 : ByteArray),
 ∃ (x_10 : Int),
 ∃ (x_11 : Int),
 ∃ (b_1 : Bool),
 LookP Tryz.prog 104 (Value.map x_1) (Value.int IntKind.i64 x) true
 (Value.tuple
 #[Value.agg
 #[Value.string x_2, Value.string x_3, Value.string x_4, Value.string x_5,
 Value.int IntKind.i64 x_6, Value.int IntKind.i64 x_7, Value.string x_8, Value.slice p n c,
 Value.string x_9, Value.int IntKind.i64 x_10, Value.int IntKind.i64 x_11],
 Value.bool b_1])
 w ∧
 ∀ (n_1 : Nat),
 bsp (!b_1)
 (∀ (W : World),
 Loc w.heap.size
 [Blk.mk n_1 110
 [Value.string x_2, Value.string x_3, Value.string x_4, Value.string x_5,
 Value.int IntKind.i64 x_6, Value.int IntKind.i64 x_7, Value.string x_8, Value.slice p n c,
 Value.string x_9, Value.int IntKind.i64 x_10, Value.int IntKind.i64 x_11]
 (wrM 2)]
 w W →
 R (Ending.returned (Value.int IntKind.i64 8)) W)
 (∃ (x_12 : Option Nat),
 (∀ (W : World),
 Loc w.heap.size
 [Blk.mk n_1 110
 [Value.string x_2, Value.string x_3, Value.string x_4, Value.string x_5,
 Value.int IntKind.i64 x_6, Value.int IntKind.i64 x_7, Value.string x_8, Value.slice p n c,
 Value.string x_9, Value.int IntKind.i64 x_10, Value.int IntKind.i64 x_11]
 (wrM 2)]
 w W →
 W.cell? (Addr.mk b (o + 2) none) = some (Value.map x_12)) ∧
 ∀ (W : World),
 Loc w.heap.size
 [Blk.mk n_1 110
 [Value.string x_2, Value.string x_3, Value.string x_4, Value.string x_5,
 Value.int IntKind.i64 x_6, Value.int IntKind.i64 x_7, Value.string x_8, Value.slice p n c,
 Value.string x_9, Value.int IntKind.i64 x_10, Value.int IntKind.i64 x_11]
 (wrM 2)]
 w W →
 ∃ (w1 : World),
 BltP Tryz.prog Builtin.delete [104, 3] [Value.map x_12, Value.int IntKind.i64 x] W w1 ∧
 KeptL [n_1] W w1 ∧ R (Ending.returned (Value.int IntKind.i64 0)) w1)
theorem vc_qdone (b : Nat) (o : Nat) (x : Int) (w : World) (R : Ending → World → Prop) (h : VC_qdone b o x w R) : Calls Tryz.prog 30 ([Value.pointer
    (some { block := b, off := o }),
  Value.int IntKind.i64 x] : List Value).toArray w R := by
  have e : execR2 { P := Tryz.prog, loops := [], pur := purM, tails := [], joins := [], boxes := [] } Tryz.f30.results.toList R (Tryz.f30.body.getD .skip) (initF [Value.pointer
    (some { block := b, off := o }),
  Value.int IntKind.i64
    x] (Tryz.f30.ntmps - ([Value.pointer (some { block := b, off := o }),
  Value.int IntKind.i64 x] : List Value).length)) w = VC_qdone b o x w R := by kernel_rfl
  have hb : Tryz.f30.body = some (Tryz.f30.body.getD .skip) := by kernel_rfl
  exact calls_of_exec2' (P := Tryz.prog) (fn := Tryz.f30) (c := Tryz.f30.body.getD .skip) (args := [Value.pointer
    (some { block := b, off := o }),
  Value.int IntKind.i64 x]) (w := w) (R := R) purM_ok Tryz.func30 hb e h

def VC_qlen (b : Nat) (o : Nat) (w : World) (R : Ending → World → Prop) : Prop :=
 ∃ (x : Option Nat),
 w.cell? (Addr.mk b (o + 2) none) = some (Value.map x) ∧
 ∃ (n : Int), LenP Tryz.prog 104 (Value.map x) n w ∧ R (Ending.returned (Value.int IntKind.i64 n)) w
theorem vc_qlen (b : Nat) (o : Nat) (w : World) (R : Ending → World → Prop) (h : VC_qlen b o w R) : Calls Tryz.prog 19 ([Value.pointer
    (some { block := b, off := o })] : List Value).toArray w R := by
  have e : execR2 { P := Tryz.prog, loops := [], pur := purM, tails := [], joins := [], boxes := [] } Tryz.f19.results.toList R (Tryz.f19.body.getD .skip) (initF [Value.pointer
    (some
      { block := b,
        off :=
          o })] (Tryz.f19.ntmps - ([Value.pointer
    (some { block := b, off := o })] : List Value).length)) w = VC_qlen b o w R := by kernel_rfl
  have hb : Tryz.f19.body = some (Tryz.f19.body.getD .skip) := by kernel_rfl
  exact calls_of_exec2' (P := Tryz.prog) (fn := Tryz.f19) (c := Tryz.f19.body.getD .skip) (args := [Value.pointer
    (some { block := b, off := o })]) (w := w) (R := R) purM_ok Tryz.func19 hb e h

def VC_cmpor (p : Option Addr) (n : Nat) (c : Nat) (w : World) (R : Ending → World → Prop) : Prop :=
 ∃ (I : List Value → World → Prop),
 ∃ (m : List Value → World → Nat),
 I [Value.int IntKind.i64 0] w ∧
 ∀ (x : Int) (w' : World),
 I [Value.int IntKind.i64 x] w' →
 bsp (decide (x < (↑n : Int)))
 (nn true p fun (b o : Nat) =>
 (0 ≤ x ∧ x < (↑n : Int)) ∧
 ∃ (x_1 : Int),
 w'.cell? (Addr.mk b (o + x.toNat) none) = some (Value.int IntKind.i64 x_1) ∧
 bsp (x_1 != 0) (R (Ending.returned (Value.int IntKind.i64 x_1)) w')
 (I [Value.int IntKind.i64 (IntKind.i64.wrap (x + 1))] w' ∧
 m [Value.int IntKind.i64 (IntKind.i64.wrap (x + 1))] w' < m [Value.int IntKind.i64 x] w'))
 (R (Ending.returned (Value.int IntKind.i64 0)) w')
theorem vc_cmpor (p : Option Addr) (n : Nat) (c : Nat) (w : World) (R : Ending → World → Prop) (h : VC_cmpor p n c w R) : Calls Tryz.prog 56 ([Value.slice
    p n c] : List Value).toArray w R := by
  have e : execR { P := Tryz.prog, loops := [(3, [(8, Ck.int IntKind.i64)])], pur := purM, tails := [], joins := [], boxes := [] } Tryz.f56.results.toList R (Tryz.f56.body.getD .skip) (initF [Value.slice
    p n c] (Tryz.f56.ntmps - ([Value.slice p n c] : List Value).length)) w = VC_cmpor p n c w R := by kernel_rfl
  have hb : Tryz.f56.body = some (Tryz.f56.body.getD .skip) := by kernel_rfl
  exact calls_of_exec' (P := Tryz.prog) (fn := Tryz.f56) (c := Tryz.f56.body.getD .skip) (args := [Value.slice p n
    c]) (w := w) (R := R) purM_ok Tryz.func56 hb e h

end Go.Proofs.YtmlmdljnfokebaaGreatDoor

/- Chapter 49: the queue's Len, Done, Due. A queue whose numbers are in range. -/
namespace Go.Proofs.YtmlmdljnfokebaaGreatDoor
open Go.RowKit Go.Maps Go.Sort

theorem qlen_any (b mb : Nat) (site : ByteArray) (last : Int) (l : List (Int × Qd)) (w : World) (hQ : QR w b mb site last l) :
    Calls Tryz.prog 19 #[.pointer (some ⟨b, 0, none⟩)] w fun e w' => e = .returned (.int .i64 (l.length : Nat)) ∧ w' = w :=
  vc_qlen b 0 w _ ⟨some mb, cell_at hQ.blk rfl, _, hQ.len, rfl, rfl⟩
theorem qdone_any (b mb : Nat) (site : ByteArray) (last : Int) (l : List (Int × Qd)) (x : Int) (w : World) (hx : I64 x) (hQ : QR w b mb site last l) :
    Calls Tryz.prog 30 #[.pointer (some ⟨b, 0, none⟩), .int .i64 x] w fun e w' => e = .returned (.int .i64 (if (aget l x).isSome then 0 else 8)) ∧ QR w' b mb site last (if (aget l x).isSome then adel l x else l) ∧ Kp (fun k => k = b ∨ k = mb) w w' := by
  refine vc_qdone b 0 x w _ ⟨some mb, cell_at hQ.blk rfl, _, _, _, _, _, _, _, _, _, _, _, _, _, _, hQ.look hx, fun n => bsp_intro (fun h W hW => ?_) (fun h => ⟨some mb, fun W hW => cell_at ((hW.kk rfl : K0 w W).blk hQ.blk (fun h => h)) rfl, fun W hW => ?_⟩)⟩
  · have h : (aget l x).isSome = false := by simpa using h
    have kW : K0 w W := hW.kk rfl
    rw [h]; exact ⟨rfl, hQ.k0 kW, kW.mono fun _ _ e => e.elim⟩
  · have h : (aget l x).isSome = true := by simpa using h
    have kW : K0 w W := hW.kk rfl
    obtain ⟨w1, hu, hQ1, hk⟩ := (hQ.k0 kW).del hx
    have hn : n ≠ mb := fun e => by
      have := hQ.map.lt
      have := hW.fresh 0 rfl rfl
      simp only at this
      omega
    rw [h]
    exact ⟨w1, hu, .of_kp hk (fun y hy e => by simp at hy; omega), rfl, hQ1, (kW.mono fun _ _ e => e.elim).trans (hk.mono fun _ _ e => .inr e)⟩

/-! ### Due -/
theorem cmpOr2_any (a b : Int) (n c : Nat) (t : TypeId) (w : World) (hb : w.heap[n]? = some (.cells #[.int .i64 a, .int .i64 b] t (0, 0))) :
    Calls Tryz.prog 56 #[.slice (some ⟨n, 0, none⟩) 2 c] w fun e w' => e = .returned (.int .i64 (if a ≠ 0 then a else b)) ∧ w' = w := by
  refine vc_cmpor (some ⟨n, 0, none⟩) 2 c w _ ?_
  refine ⟨fun vs w' => ∃ i : Nat, vs = [.int .i64 (i : Int)] ∧ i ≤ 2 ∧ (0 < i → a = 0) ∧ (1 < i → b = 0) ∧ w' = w,
    fun vs _ => (match vs with | .int _ x :: _ => 2 - x.toNat | _ => 0), ⟨0, rfl, by omega, (fun h => by omega), (fun h => by omega), rfl⟩, ?_⟩
  rintro x w1 ⟨i, hv, hi, ha, hb0, rfl⟩
  simp only [List.cons.injEq, Value.int.injEq, true_and, and_true] at hv
  subst hv
  refine bsp_intro (fun hlt => ?_) (fun hge => ?_)
  · have hlt : i < 2 := by simp at hlt; omega
    show (0 ≤ (i : Int) ∧ (i : Int) < ((2 : Nat) : Int)) ∧ _
    rw [Int.toNat_natCast]
    rcases (show i = 0 ∨ i = 1 by omega) with rfl | rfl
    · refine ⟨by omega, a, cell_at hb rfl, bsp_intro (fun h => ?_) (fun h => ?_)⟩
      · have h : a ≠ 0 := by simpa using h
        exact ⟨by rw [if_pos h], rfl⟩
      · have h : a = 0 := by simpa using h
        exact ⟨⟨1, by rw [inc64 (by omega)], by omega, (fun _ => h), (fun h => by omega), rfl⟩, by rw [inc64 (by omega)]; simp⟩
    · have ha : a = 0 := ha (by omega)
      refine ⟨by omega, b, cell_at hb rfl, bsp_intro (fun h => ?_) (fun h => ?_)⟩
      · exact ⟨by rw [if_neg (by simpa using ha)], rfl⟩
      · have h : b = 0 := by simpa using h
        exact ⟨⟨2, by rw [inc64 (by omega)], by omega, (fun _ => ha), (fun _ => h), rfl⟩, by rw [inc64 (by omega)]; simp⟩
  · have hi : i = 2 := by simp at hge; omega
    subst hi
    exact ⟨by rw [if_neg (by simpa using ha (by omega)), hb0 (by omega)], rfl⟩
/-- When a message is due. -/
def duK (l : List (Int × Qd)) (x : Int) : Int := ((aget l x).getD qz).due
def cq (l : List (Int × Qd)) (x y : Int) : Int := if Lib.compareInt (duK l x) (duK l y) ≠ 0 then Lib.compareInt (duK l x) (duK l y) else Lib.compareInt x y
theorem cq_lt (l : List (Int × Qd)) (x y : Int) : cq l x y < 0 ↔ duK l x < duK l y ∨ duK l x = duK l y ∧ x < y := by
  unfold cq Lib.compareInt
  generalize duK l x = a
  generalize duK l y = b
  repeat' split
  all_goals omega
/-- A number that can be a key. -/
abbrev KI : Type := {a : Int // ∃ kl, keyOf Tryz.prog 3 (.int .i64 a) = some kl}
instance : Inhabited KI := ⟨⟨0, _, keyInt (by unfold I64; omega)⟩⟩
def encK (a : KI) : Value := .int .i64 a.1
theorem encK_one : OneCell encK := fun _ => rfl
theorem kdrew (w : World) : K0 w w.drew := ⟨rfl, rfl, rfl, Nat.le_refl _, fun _ _ _ => rfl⟩
theorem qcmp_any (l : List (Int × Qd)) (x y : KI) (n b mb : Nat) (site : ByteArray) (last : Int) (tn : TypeId) (f : Nat × Nat) (w : World) (hn : w.heap[n]? = some (.cells #[.pointer (some ⟨b, 0, none⟩)] tn f))
    (hb : w.heap[b]? = some (.cells #[.string site, .int .i64 last, .map (some mb)] 106 (0, 0))) (hm : MapB Tryz.prog 3 (fun a : Int => Value.int .i64 a) w mb (amap qdV l)) :
    Calls Tryz.prog 55 #[encK x, encK y, .pointer (some ⟨n, 0, none⟩)] w fun e w' => e = .returned (.int .i64 (cq l x.1 y.1)) ∧ K0 w w' ∧ w.drawn ≤ w'.drawn := by
  have look : ∀ (a : KI) (wx : World), K0 w wx → LookP Tryz.prog 104 (.map (some mb)) (.int .i64 a.1) false (qdV ((aget l a.1).getD qz)) wx := fun a wx k => by
    obtain ⟨kl, hkl⟩ := a.2
    have := MapB.look encInt (hm.kp k (fun h => h)) (int_keyed Tryz.underlying3) Tryz.underlying104 (zeroQ wx) hkl false
    rw [aget_amap] at this
    cases hg : aget l a.1 with
    | none => rw [hg] at this; exact this
    | some x => rw [hg] at this; exact this
  refine vc_qcmp x.1 y.1 n 0 w _ ⟨fun wx => K0 w wx, kdrew w, some ⟨b, 0, none⟩, fun wx k => cell_at (k.blk hn (fun h => h)) rfl, ?_⟩
  refine ⟨some mb, fun wx k => cell_at (k.blk hb (fun h => h)) rfl, _, _, _, _, _, _, _, _, _, _, _, _, _, fun wx k => look x wx k, some ⟨b, 0, none⟩, fun wx k => cell_at (k.blk hn (fun h => h)) rfl, ?_⟩
  refine ⟨some mb, fun wx k => cell_at (k.blk hb (fun h => h)) rfl, _, _, _, _, _, _, _, _, _, _, _, _, _, fun wx k => look y wx k, ?_⟩
  refine ⟨(Tryz.cmp_Compare_int _ _ w.drew).mono fun e w1 ⟨he, hw⟩ => ⟨_, he, ?_⟩⟩
  subst hw
  refine ⟨(Tryz.cmp_Compare_int _ _ w.drew).mono fun e w1 ⟨he, hw⟩ => ⟨_, he, fun n2 w2 hn2 => ?_⟩⟩
  subst hw
  refine ⟨(cmpOr2_any _ _ n2 2 _ w2 hn2.block).mono fun e w3 ⟨he, hw⟩ => ⟨_, he, rfl, ?_, ?_⟩⟩
  · rw [hw]; exact (kdrew w).trans (hn2.kp _)
  · rw [hw, hn2.hw]
    show w.drawn ≤ w.drawn + 1
    omega

theorem cq_swo (l : List (Int × Qd)) : SWO (ltOf fun x y : KI => cq l x.1 y.1) := by
  have h : ∀ x y : KI, ltOf (fun x y : KI => cq l x.1 y.1) x y = decide (duK l x.1 < duK l y.1 ∨ duK l x.1 = duK l y.1 ∧ x.1 < y.1) := fun x y => by
    show decide (cq l x.1 y.1 < 0) = _
    rw [decide_eq_decide]; exact cq_lt l x.1 y.1
  refine ⟨fun x => ?_, fun x y z h1 h2 => ?_, fun x y z h1 h2 => ?_⟩
  · rw [h, decide_eq_false_iff_not]; omega
  · rw [h, decide_eq_true_eq] at *; omega
  · rw [h, decide_eq_false_iff_not] at *; omega
theorem isort_any (l : List (Int × Qd)) (cs : List KI) (p : Option Addr) (c n b mb : Nat) (site : ByteArray) (last : Int) (tn : TypeId) (f : Nat × Nat) (w : World) {base : Nat} (ho : w.ownsRow base 3 1 (.slice p cs.length c) cs.length (cs.map encK)) (hl : cs.length ≤ 1000000)
    (hn : w.heap[n]? = some (.cells #[.pointer (some ⟨b, 0, none⟩)] tn f)) (htn : (tn == 3) = false) (hb : w.heap[b]? = some (.cells #[.string site, .int .i64 last, .map (some mb)] 106 (0, 0))) (hm : MapB Tryz.prog 3 (fun a : Int => Value.int .i64 a) w mb (amap qdV l)) :
    Calls Tryz.prog 54 #[.slice p cs.length c, .func (.func 55) #[] #[.pointer (some ⟨n, 0, none⟩)]] w fun e w' => e = .returned (.tuple #[]) ∧
      ∃ cs' : List KI, cs'.Perm cs ∧ (cs'.Pairwise fun x y => ¬ cq l y.1 x.1 < 0) ∧ w'.ownsRow base 3 1 (.slice p cs'.length c) cs'.length (cs'.map encK) ∧ Kp (fun i => (Value.slice p cs.length c).ownBlock = some i) w w' := by
  rcases Nat.eq_zero_or_pos cs.length with h0 | h0
  · have : cs = [] := List.eq_nil_of_length_eq_zero h0
    subst this
    exact (Tryz.slices_SortFunc_none (α := KI) p c _ w).mono fun e w' ⟨he, hw⟩ => ⟨he, [], .refl _, .nil, by rw [hw]; exact ho, by rw [hw]; exact .refl _ _⟩
  have hno := own_not ho hn htn
  have hnb := own_not ho hb rfl
  have hnm : ¬ (Value.slice p cs.length c).ownBlock = some mb := fun he => by
    obtain ⟨c', h1⟩ := own_type ho he
    obtain ⟨es, cl, hb', _⟩ := hm.blk
    rw [h1] at hb'
    cases hb'
  obtain ⟨g, cur, rfl, hbase, hg, hcap, hmax, hcs, hH⟩ := own_holds encK ho h0
  have eg : ∀ args w, (callFunc 55 args).run Tryz.prog w = .ok (.enter 55 args) w := enters_of Tryz.func55 (by kernel_rfl) rfl
  have hcmp : CmpLays1 Tryz.prog 55 #[.pointer (some ⟨n, 0, none⟩)] encK (fun x y : KI => cq l x.1 y.1) g 0 cs.toArray.size w := fun m os dk _ x y => by
    have hk := sort1_kp encK w g 0 m dk os
    have ne : ∀ k, ¬ (Value.slice (some ⟨g, 0, none⟩) cs.length c).ownBlock = some k → ¬ k = g := fun k h e => h (by rw [e]; rfl)
    refine (qcmp_any l x y n b mb site last tn f _ (hk.blk hn (ne n hno)) (hk.blk hb (ne b hnb)) (hm.kp hk (ne mb hnm))).mono fun e w' ⟨he, hk, hd⟩ => ⟨he, grow_of1 hk hd⟩
  have hS := Tryz.slices_SortFunc encK encK_one (fun x y : KI => cq l x.1 y.1) (cq_swo l) 55 #[.pointer (some ⟨n, 0, none⟩)] g 0 c cs.toArray w eg hcmp hH (block_lt hg) (by simp; omega)
  change Calls Tryz.prog 54 #[.slice (some ⟨g, 0, none⟩) cs.length c, .func (.func 55) #[] #[.pointer (some ⟨n, 0, none⟩)]] w _ at hS
  refine hS.mono fun e w' ⟨he, d, m, os, hperm, hsort, hw⟩ => ?_
  obtain ⟨hp, hrow⟩ := sort1_post encK hbase hg hcap hmax hcs hH (m := m) (os := os) hperm
  refine ⟨he, d.toList, hp, ?_, by rw [hw]; exact hrow, by rw [hw]; exact (sort1_kp encK w g 0 m d os).mono fun i _ e => by rw [e]; rfl⟩
  refine (sorted_pw hperm.1 hsort).imp fun {x y} h hc => ?_
  have h : decide (cq l y.1 x.1 < 0) = false := h
  rw [decide_eq_true hc] at h
  cases h
def dueK (l : List (Int × Qd)) (now : Int) : List Int := (l.filter (fun p => decide (p.2.due ≤ now))).map (·.1)
theorem erase_perm {α : Type} : ∀ (l : List α) (j : Nat) (x : α), l[j]? = some x → (x :: l.eraseIdx j).Perm l
  | [], _, _, h => by simp at h
  | y :: r, 0, x, h => by
    have e : y = x := by simpa using h
    subst e; exact .refl _
  | y :: r, j + 1, x, h => by
    rw [List.eraseIdx_cons_succ]
    exact (List.Perm.swap y x _).trans ((erase_perm r j x (by simpa using h)).cons y)
theorem dueK_perm {l : List (Int × Qd)} {now : Int} {j : Nat} {x : Int × Qd} (hj : l[j]? = some x) : (dueK l now).Perm ((if x.2.due ≤ now then [x.1] else []) ++ dueK (l.eraseIdx j) now) := by
  have h1 := erase_perm l j x hj
  have h2 := ((h1.filter (fun p => decide (p.2.due ≤ now))).map (·.1)).symm
  unfold dueK
  refine h2.trans ?_
  rw [List.filter_cons]
  by_cases h : x.2.due ≤ now
  · rw [if_pos (by simpa using h), if_pos h]; exact .refl _
  · rw [if_neg (by simpa using h), if_neg h]; exact .refl _
set_option maxHeartbeats 1000000 in
theorem qdue_any (b mb : Nat) (site : ByteArray) (last : Int) (l : List (Int × Qd)) (now : Int) (w : World) (hQ : QR w b mb site last l) (hl : l.length ≤ 1000000) :
    Calls Tryz.prog 22 #[.pointer (some ⟨b, 0, none⟩), .int .i64 now] w fun e w' => (∃ (ns : List KI) (p : Option Addr) (c : Nat), e = .returned (.slice p ns.length c) ∧ w'.ownsRow w.heap.size 3 1 (.slice p ns.length c) ns.length (ns.map encK) ∧
      (ns.map (·.1)).Perm (dueK l now) ∧ ns.Pairwise (fun x y => ¬ cq l y.1 x.1 < 0)) ∧ K0 w w' := by
  have hbw := block_lt hQ.blk
  have hmw := hQ.map.lt
  refine vc_qdue b 0 now w _ (fun n => ⟨some mb, fun W hW => cell_at ((hW.kk rfl : K0 w W).blk hQ.blk (fun h => h)) rfl, fun W hW => ?_⟩)
  have kW : K0 w W := hW.kk rfl
  have hnW := hW.cells 0 rfl
  have gn : w.heap.size ≤ n := hW.fresh 0 rfl rfl
  have hnlt := block_lt hnW
  simp only at hnlt
  obtain ⟨r, w1, hrun, hR, k1, gr, rlt⟩ := (hQ.map.kp kW (fun h => h)).range (t := 104) Tryz.underlying104
  refine ⟨r, w1, hrun, .of_k0 k1, ?_⟩
  have gw1 : w.heap.size ≤ w1.heap.size := (kW.trans k1).size
  refine ⟨fun vs w' => ∃ (cs : List KI) (todo : List (Int × Qd)) (p : Option Addr) (c : Nat), vs = [.slice p cs.length c] ∧ RngB (fun a : Int => Value.int .i64 a) w' r mb (amap qdV todo) ∧ todo.Sublist l ∧ cs.length + todo.length ≤ l.length ∧ (cs.map (·.1) ++ dueK todo now).Perm (dueK l now) ∧
      w'.ownsRow w1.heap.size 3 1 (.slice p cs.length c) cs.length (cs.map encK) ∧ Kp (· = r) w1 w',
    fun _ w' => leftN w' r mb, ⟨[], l, none, 0, rfl, hR, .refl _, by simp, .refl _, World.ownsRow_nil _ _ _ _, .refl _ _⟩, ?_⟩
  rintro p0 n0 c0 w2 ⟨cs, todo, p, c, hv, hR2, hsub, hlen, hperm, ho2, k2⟩ hL2
  simp only [List.cons.injEq, Value.slice.injEq, and_true] at hv
  obtain ⟨rfl, rfl, rfl⟩ := hv
  have hrm : ¬ mb = r := by omega
  have hrn : ¬ n = r := by omega
  have hrb : ¬ b = r := by omega
  have kw2 : K0 w w2 := (kW.trans k1).fresh k2 (fun j hj e => by omega)
  rcases hR2.next (P := Tryz.prog) with ⟨hnil, hnx⟩ | ⟨j, q, w3, hj, hnx, hent, hR3, k3⟩
  · have htodo : todo = [] := by
      cases todo with
      | nil => rfl
      | cons x t => simp [amap] at hnil
    subst htodo
    refine ⟨false, [], w2, hnx, .refl _ _, bsp_intro (fun h => by cases h) (fun _ => ?_)⟩
    have hn2 := hL2.cells 0 rfl
    refine ⟨(isort_any l cs p0 c0 n b mb site last _ _ w2 ho2 (by omega) hn2 rfl (kw2.blk hQ.blk (fun h => h)) (hQ.map.kp kw2 (fun h => h))).mono fun e w3 ⟨he, cs', hp, hs, ho3, k3⟩ => ⟨he, ⟨k3.size, fun x hx => by cases hx⟩, ⟨cs', p0, c0, ?_, own_base ho3 gw1, ?_, hs⟩, kw2.fresh k3 (fun j hj e => by have := own_ge ho2 e; omega)⟩⟩
    · rw [hp.length_eq]
    · rw [show dueK [] now = [] from rfl, List.append_nil] at hperm
      exact (hp.map _).trans hperm
  · have hj' : ((todo.map fun p => (p.1, qdV p.2)))[j]? = some q := hj
    rw [List.getElem?_map, Option.map_eq_some_iff] at hj'
    obtain ⟨q, hqj, rfl⟩ := hj'
    have hmem : q ∈ l := hsub.subset (List.mem_of_getElem? hqj)
    obtain ⟨kl, hkl⟩ := hQ.map.key (q.1, qdV q.2) (List.mem_map.2 ⟨q, hmem, rfl⟩)
    have her : (amap qdV todo).eraseIdx j = amap qdV (todo.eraseIdx j) := by unfold amap; rw [map_erase']
    rw [her] at hR3
    have hjl := (List.getElem?_eq_some_iff.1 hqj).1
    have helen : (todo.eraseIdx j).length = todo.length - 1 := List.length_eraseIdx_of_lt hjl
    have hpm := dueK_perm (now := now) hqj
    have hl2 := hR2.left
    have hlam : (amap qdV todo).length = todo.length := by simp [amap]
    have hlam3 : (amap qdV (todo.eraseIdx j)).length = todo.length - 1 := by simp [amap, helen]
    have hn2 := hL2.cells 0 rfl
    have hn2lt := block_lt hn2
    have hr3 : r < w3.heap.size := by
      have := k1.size; have := k2.size; have := k3.size; omega
    refine ⟨true, _, w3, hnx, .of_kp k3 (fun y hy e => by simp at hy; omega), bsp_intro (fun _ => ?_) (fun h => by cases h)⟩
    have ho3 := owns_kp ho2 k3 (fun k hk e => by have := own_ge ho2 hk; omega)
    refine ⟨q.1, q.2.m.fu, q.2.m.fs, q.2.m.tu, q.2.m.ts, q.2.m.n, q.2.m.d, q.2.m.sj, q.2.p, q.2.m.hops.length, q.2.c, q.2.m.bd, q.2.f, q.2.due, hent, fun n4 => bsp_intro (fun hd => fun n5 W5 hW5 => ?_) (fun hd => fun W5 hW5 => ?_)⟩
    · have hd : q.2.due ≤ now := by simpa using hd
      have k5 : K0 w3 W5 := hW5.kk rfl
      have c0' := hW5.cells 0 rfl
      have c2' := hW5.cells 2 rfl
      have ho5 := owns_kp ho3 k5 (fun _ _ h => h)
      have e1 : cs.length + 1 = (cs ++ [(⟨q.1, kl, hkl⟩ : KI)]).length := by simp
      refine ⟨w1.heap.size, cs.map encK, ho5, by omega, by omega, Nat.le_trans k2.size (Nat.le_trans k3.size k5.size), fun p' c' w6 ho6 hg6 _ => ⟨?_, ⟨cs ++ [⟨q.1, kl, hkl⟩], todo.eraseIdx j, p', c', by rw [← e1], ?_, ((List.eraseIdx_sublist _ _).trans hsub), by rw [← e1, helen]; omega, ?_, by rw [← e1, List.map_append]; exact ho6, ?_⟩, ?_⟩⟩
      · refine .of_kp (kp_grown hg6) (fun z hz => ?_)
        simp only [List.mem_cons, List.not_mem_nil, or_false] at hz
        rcases hz with rfl | rfl
        · exact own_not ho5 c0' rfl
        · exact own_not ho5 c2' rfl
      · refine (hR3.kp k5 (fun h => h) (fun h => h)).kp (kp_grown hg6) (fun e => ?_) (fun e => ?_)
        · have := own_ge ho5 e; have := own_lt ho5 e; omega
        · have := own_ge ho5 e; omega
      · refine List.Perm.trans ?_ hperm
        rw [List.map_append, List.append_assoc]
        refine List.Perm.append_left _ ?_
        rw [if_pos hd] at hpm
        exact hpm.symm
      · refine ((k2.trans k3).trans (k5.mono fun _ _ h => h.elim)).fresh (kp_grown hg6) (fun i hi e => ?_)
        have := own_ge ho5 e; omega
      · show leftN w6 r mb < leftN w2 r mb
        rw [hl2, hlam]
        have hR6 := (hR3.kp k5 (fun h => h) (fun h => h)).kp (kp_grown hg6) (fun e => by have := own_ge ho5 e; omega) (fun e => by have := own_ge ho5 e; omega)
        rw [hR6.left, hlam3]; omega
    · have hd : ¬ q.2.due ≤ now := by simpa using hd
      have k5 : K0 w3 W5 := hW5.kk rfl
      have hR5 := hR3.kp k5 (fun h => h) (fun h => h)
      refine ⟨⟨cs, todo.eraseIdx j, p0, c0, rfl, hR5, ((List.eraseIdx_sublist _ _).trans hsub), by rw [helen]; omega, ?_, owns_kp ho3 k5 (fun _ _ h => h), (k2.trans k3).trans (k5.mono fun _ _ h => h.elim)⟩, ?_⟩
      · refine List.Perm.trans ?_ hperm
        refine List.Perm.append_left _ ?_
        rw [if_neg hd] at hpm
        exact hpm.symm
      · show leftN W5 r mb < leftN w2 r mb
        rw [hl2, hlam, hR5.left, hlam3]; omega

end Go.Proofs.YtmlmdljnfokebaaGreatDoor

/- Chapter 49, plain: the reference's list of waiting messages against the queue's map. No program in sight. -/
namespace Go.Proofs.YtmlmdljnfokebaaGreatDoor
open Go.RowKit Go.Maps

/-- A message that waits, as the reference has it. -/
structure Wx where
  n : Int
  due : Int
  f : Int
  m : Ml
  p : Option Addr
  c : Nat
instance : Inhabited Wx := ⟨⟨0, 0, 0, mz, none, 0⟩⟩
/-- What both say of a message. -/
def plQ (q : Qd) : Int × Int × Ml := (q.due, q.f, q.m)
def plW (x : Wx) : Int × Int × Int × Ml := (x.n, x.due, x.f, x.m)
/-- The reference's list and the map say the same; the numbers rise. -/
structure QL (last : Int) (l : List (Int × Qd)) (L : List Wx) : Prop where
  eq : L.map plW = amap plQ l
  up : l.Pairwise fun p q => p.1 < q.1
  bd : ∀ p ∈ l, 1 ≤ p.1 ∧ p.1 ≤ last
theorem QL.nil {last : Int} : QL last [] [] := ⟨rfl, .nil, fun p h => by cases h⟩
section
variable {last : Int} {l : List (Int × Qd)} {L : List Wx}
theorem QL.dis (h : QL last l L) : l.Pairwise fun p q => p.1 ≠ q.1 := h.up.imp fun {p q} h e => by omega
theorem QL.len (h : QL last l L) : L.length = l.length := by
  have := congrArg List.length h.eq
  simpa [amap] using this
theorem QL.at (h : QL last l L) {i : Nat} {x : Wx} (hi : L[i]? = some x) : ∃ q, l[i]? = some (x.n, q) ∧ q.due = x.due ∧ q.f = x.f ∧ q.m = x.m := by
  have h1 := congrArg (fun z => z[i]?) h.eq
  simp only [amap, List.getElem?_map, hi, Option.map_some] at h1
  cases hl : l[i]? with
  | none => rw [hl] at h1; cases h1
  | some pq =>
    obtain ⟨k, q⟩ := pq
    rw [hl] at h1
    simp only [Option.map_some, Option.some.injEq, plW, plQ, Prod.mk.injEq] at h1
    obtain ⟨rfl, h2, h3, h4⟩ := h1
    exact ⟨q, rfl, h2.symm, h3.symm, h4.symm⟩
theorem QL.get (h : QL last l L) {i : Nat} {x : Wx} (hi : L[i]? = some x) : ∃ q, aget l x.n = some q ∧ q.due = x.due ∧ q.f = x.f ∧ q.m = x.m := by
  obtain ⟨q, h1, h2⟩ := h.at hi
  exact ⟨q, aget_at h.dis (List.mem_of_getElem? h1), h2⟩
theorem QL.mem (h : QL last l L) {p : Int × Qd} (hp : p ∈ l) : ∃ x ∈ L, x.n = p.1 := by
  have : (p.1, plQ p.2) ∈ L.map plW := by rw [h.eq]; exact List.mem_map.2 ⟨p, hp, rfl⟩
  obtain ⟨x, hx, e⟩ := List.mem_map.1 this
  exact ⟨x, hx, by simp [plW] at e; exact e.1⟩
theorem QL.no (h : QL last l L) {a : Int} (ha : ∀ x ∈ L, x.n ≠ a) : aget l a = none := by
  rw [aget_none]
  intro p hp e
  obtain ⟨x, hx, hn⟩ := h.mem hp
  exact ha x hx (hn.trans e)
theorem QL.bdW (h : QL last l L) {x : Wx} (hx : x ∈ L) : 1 ≤ x.n ∧ x.n ≤ last := by
  obtain ⟨i, hi⟩ := List.getElem?_of_mem hx
  obtain ⟨q, h1, _⟩ := h.at hi
  exact h.bd _ (List.mem_of_getElem? h1)
theorem QL.del (h : QL last l L) {i : Nat} {x : Wx} (hi : L[i]? = some x) : QL last (adel l x.n) (L.eraseIdx i) := by
  obtain ⟨q, h1, _⟩ := h.at hi
  rw [adel_at h.dis h1]
  refine ⟨?_, h.up.sublist (List.eraseIdx_sublist _ _), fun p hp => h.bd p ((List.eraseIdx_sublist _ _).subset hp)⟩
  unfold amap
  rw [map_erase, map_erase, h.eq]; rfl
theorem QL.set (h : QL last l L) {i : Nat} {x x' : Wx} {q : Qd} (hi : L[i]? = some x) (hn : x'.n = x.n) (hq : plQ q = (x'.due, x'.f, x'.m)) : QL last (aset l x.n q) (L.set i x') := by
  obtain ⟨q0, h1, _⟩ := h.at hi
  rw [aset_old h.dis h1]
  have hk : (l.set i (x.n, q)).map (·.1) = l.map (·.1) := by
    rw [List.map_set]
    apply List.ext_getElem?
    intro j
    rw [List.getElem?_set]
    split
    · rename_i e
      subst e
      split
      · rw [List.getElem?_map, h1]; rfl
      · rw [List.getElem?_map, h1]; rename_i h2; exfalso; apply h2; rw [List.length_map]; exact (List.getElem?_eq_some_iff.1 h1).1
    · rfl
  refine ⟨?_, ?_, fun p hp => ?_⟩
  · unfold amap
    rw [List.map_set, List.map_set, h.eq]
    show _ = (amap plQ l).set i (x.n, plQ q)
    rw [hq, ← hn]; rfl
  · have h2 := h.up
    rw [← List.pairwise_map (f := fun p : Int × Qd => p.1) (R := fun a b => a < b)] at h2 ⊢
    rw [hk]; exact h2
  · have : p.1 ∈ l.map (·.1) := by rw [← hk]; exact List.mem_map.2 ⟨p, hp, rfl⟩
    obtain ⟨p', hp', e⟩ := List.mem_map.1 this
    rw [← e]; exact h.bd p' hp'
theorem QL.add (h : QL last l L) (h0 : 0 ≤ last) {x : Wx} {q : Qd} (hn : x.n = last + 1) (hq : plQ q = (x.due, x.f, x.m)) : QL (last + 1) (aset l (last + 1) q) (L ++ [x]) := by
  rw [aset_new (fun p hp e => by have := (h.bd p hp).2; omega)]
  refine ⟨?_, ?_, fun p hp => ?_⟩
  · unfold amap
    rw [List.map_append, List.map_append, h.eq]
    show amap plQ l ++ [plW x] = amap plQ l ++ [(last + 1, plQ q)]
    rw [hq, ← hn]; rfl
  · rw [List.pairwise_append]
    refine ⟨h.up, List.pairwise_singleton _ _, fun a ha b hb => ?_⟩
    simp at hb
    subst hb
    have := (h.bd a ha).2
    show a.1 < last + 1
    omega
  · rcases List.mem_append.1 hp with hp | hp
    · have := h.bd p hp; omega
    · simp at hp; subst hp; show 1 ≤ last + 1 ∧ last + 1 ≤ last + 1; omega
theorem QL.upW (h : QL last l L) : L.Pairwise fun x y => x.n < y.n := by
  have h2 := h.up
  have e : L.map (fun x => x.n) = l.map (fun p => p.1) := by
    have := congrArg (List.map fun z : Int × Int × Int × Ml => z.1) h.eq
    simpa [amap, List.map_map, Function.comp_def, plW] using this
  rw [← List.pairwise_map (f := fun p : Int × Qd => p.1) (R := fun a b => a < b), ← e, List.pairwise_map] at h2
  exact h2

/-! ### What is due -/
/-- Ahead: due sooner, or as soon and of a smaller number. -/
def Ah (x y : Wx) : Prop := x.due < y.due ∨ x.due = y.due ∧ x.n < y.n
theorem ah_ins {out : List Wx} {x : Wx} {at_ : Nat} (hs : out.Pairwise Ah) (hn : ∀ y ∈ out, y.n < x.n) (ha : at_ ≤ out.length) (hi : ∀ (j : Nat) (y : Wx), at_ ≤ j → out[j]? = some y → x.due < y.due) (lo : ∀ y, 0 < at_ → out[at_ - 1]? = some y → y.due ≤ x.due) :
    (out.take at_ ++ x :: out.drop at_).Pairwise Ah := by
  rw [List.pairwise_append]
  have hlow : ∀ y ∈ out.take at_, Ah y x := fun y hy => by
    obtain ⟨j, hj⟩ := List.getElem?_of_mem hy
    rw [List.getElem?_take] at hj
    split at hj
    · rename_i hja
      have hyn := hn y (List.mem_of_getElem? hj)
      have hlt : at_ - 1 < out.length := by omega
      have hz := lo out[at_ - 1] (by omega) (List.getElem?_eq_getElem hlt)
      have hd : y.due ≤ x.due := by
        rcases Nat.lt_or_ge j (at_ - 1) with h | h
        · have hjl : j < out.length := by omega
          rw [List.getElem?_eq_getElem hjl] at hj
          cases hj
          have := List.pairwise_iff_getElem.1 hs j (at_ - 1) hjl hlt h
          unfold Ah at this
          omega
        · have : j = at_ - 1 := by omega
          subst this
          rw [List.getElem?_eq_getElem hlt] at hj
          cases hj
          exact hz
      unfold Ah; omega
    · cases hj
  have hhi : ∀ y ∈ out.drop at_, x.due < y.due := fun y hy => by
    obtain ⟨j, hj⟩ := List.getElem?_of_mem hy
    rw [List.getElem?_drop] at hj
    exact hi _ y (by omega) hj
  refine ⟨hs.sublist (List.take_sublist _ _), List.pairwise_cons.2 ⟨fun y hy => .inl (hhi y hy), hs.sublist (List.drop_sublist _ _)⟩, fun a hma b hmb => ?_⟩
  rcases List.mem_cons.1 hmb with rfl | hmb
  · exact hlow a hma
  · have h1 := hlow a hma
    have h2 := hhi b hmb
    unfold Ah at *
    omega
theorem perm_uniq {R : Int → Int → Prop} (anti : ∀ a b, R a b → R b a → a = b) : ∀ {l1 l2 : List Int}, l1.Perm l2 → l1.Pairwise R → l2.Pairwise R → l1 = l2
  | [], l2, hp, _, _ => (List.nil_perm.1 hp).symm
  | a :: r, [], hp, _, _ => by have := hp.length_eq; simp at this
  | a :: r, b :: s, hp, h1, h2 => by
    have hab : a = b := Classical.byContradiction fun hne => by
      have h3 : a ∈ s := by
        rcases List.mem_cons.1 (hp.subset List.mem_cons_self) with h | h
        · exact absurd h hne
        · exact h
      have h4 : b ∈ r := by
        rcases List.mem_cons.1 (hp.symm.subset List.mem_cons_self) with h | h
        · exact absurd h.symm hne
        · exact h
      exact hne (anti a b ((List.pairwise_cons.1 h1).1 b h4) ((List.pairwise_cons.1 h2).1 a h3))
    subst hab
    rw [perm_uniq anti (List.Perm.cons_inv hp) (List.pairwise_cons.1 h1).2 (List.pairwise_cons.1 h2).2]
def dueW (L : List Wx) (now : Int) : List Wx := L.filter fun x => decide (x.due ≤ now)
theorem QL.dueK (h : QL last l L) (now : Int) : dueK l now = (dueW L now).map (·.n) := by
  have h1 : ∀ (l : List (Int × Qd)) (L : List Wx), L.map plW = amap plQ l → Go.Proofs.YtmlmdljnfokebaaGreatDoor.dueK l now = (dueW L now).map (·.n) := by
    intro l
    induction l with
    | nil => intro L hL; cases L with
      | nil => rfl
      | cons x r => cases hL
    | cons p r ih =>
      intro L hL
      cases L with
      | nil => cases hL
      | cons x L =>
        simp only [amap, List.map_cons, List.cons.injEq, plW, plQ, Prod.mk.injEq] at hL
        obtain ⟨⟨h1, h2, _⟩, h3⟩ := hL
        have ih := ih L h3
        unfold Go.Proofs.YtmlmdljnfokebaaGreatDoor.dueK dueW at ih ⊢
        rw [List.filter_cons, List.filter_cons, h2]
        split
        · rw [List.map_cons, List.map_cons, ih, h1]
        · exact ih
  exact h1 l L h.eq
theorem QL.duK (h : QL last l L) {x : Wx} (hx : x ∈ L) : duK l x.n = x.due := by
  obtain ⟨i, hi⟩ := List.getElem?_of_mem hx
  obtain ⟨q, h1, h2, _⟩ := h.get hi
  unfold Go.Proofs.YtmlmdljnfokebaaGreatDoor.duK
  rw [h1, ← h2]; rfl
theorem QL.due (h : QL last l L) {now : Int} {ns : List KI} {out : List Wx} (h1 : (ns.map (·.1)).Perm (Go.Proofs.YtmlmdljnfokebaaGreatDoor.dueK l now)) (h2 : ns.Pairwise fun x y => ¬ cq l y.1 x.1 < 0) (h3 : out.Perm (dueW L now)) (h4 : out.Pairwise Ah) : ns.map (·.1) = out.map (·.n) := by
  refine perm_uniq (R := fun a b => ¬ cq l b a < 0) (fun a b ha hb => ?_) (h1.trans (by rw [h.dueK]; exact (h3.map _).symm)) (by rw [List.pairwise_map]; exact h2) ?_
  · rw [cq_lt] at ha hb; omega
  · rw [List.pairwise_map]
    have hm : ∀ x ∈ out, x ∈ L := fun x hx => (List.mem_filter.1 (h3.subset hx)).1
    refine (List.pairwise_iff_forall_sublist.2 fun {a b} hab => ?_)
    have hA : Ah a b := List.pairwise_iff_forall_sublist.1 h4 hab
    have ha := hm a (hab.subset (by simp))
    have hb := hm b (hab.subset (by simp))
    rw [cq_lt, h.duK ha, h.duK hb]
    unfold Ah at hA
    omega
end

end Go.Proofs.YtmlmdljnfokebaaGreatDoor

/- Chapter 49: a bounce is valid (plain); the contract of a queue's Fail. No condition but that numbers are in range. -/
namespace Go.Proofs.YtmlmdljnfokebaaGreatDoor
open Go.RowKit Go.Maps

theorem env_parts {m : Ml} (h : chkM m = 0) : userB m.fu = true ∧ siteE m.fs = 0 ∧ userB m.tu = true ∧ siteE m.ts = 0 := by
  unfold chkM at h
  split at h
  · rename_i h1; exact absurd h h1
  rename_i he
  have he : envE m = 0 := Classical.byContradiction he
  unfold envE at he
  split at he
  · cases he
  rename_i e1
  split at he
  · rename_i h1; exact absurd he h1
  rename_i e2
  split at he
  · cases he
  rename_i e3
  split at he
  · rename_i h1; exact absurd he h1
  rename_i e4
  exact ⟨by simpa using e1, Classical.byContradiction e2, by have : ¬ userB m.tu = false := fun h => e3 (.inl h); simpa using this, Classical.byContradiction e4⟩
theorem nd_ok : subjE ⟨#[78, 111, 116, 32, 100, 101, 108, 105, 118, 101, 114, 101, 100]⟩ = 0 := by decide +kernel
theorem user_nil : userB ⟨#[]⟩ = true := by decide +kernel
theorem bnc_ok {m y : Ml} {s : ByteArray} {code now : Int} (hcode : I64 code) (h : bncM m s code now = some y) : chkM y = 0 ∧ y.hops = [] ∧ y.fu.size = 0 := by
  unfold bncM at h
  split at h
  · cases h
  rename_i h1
  split at h
  · cases h
  rename_i h2
  split at h
  · cases h
  rename_i h3
  have h2a : chkM m = 0 := Classical.byContradiction fun h => h2 (.inl h)
  have h2b : minB now = true := by have : ¬ minB now = false := fun h => h2 (.inr h); simpa using this
  have h3 : siteE s = 0 := Classical.byContradiction h3
  obtain ⟨z1, z2, z3, z4, z5, z6, z7, z8, z9, z10, z11, z12⟩ := chkM_bd h2a
  obtain ⟨p1, p2, p3, p4⟩ := env_parts h2a
  cases h
  refine ⟨?_, rfl, rfl⟩
  have hd := decI_size hcode
  have he : envE ⟨⟨#[]⟩, s, m.fu, m.fs, m.n, now, ⟨#[78, 111, 116, 32, 100, 101, 108, 105, 118, 101, 114, 101, 100]⟩, [], m.tu ++ ⟨#[64]⟩ ++ m.ts ++ ⟨#[32]⟩ ++ decI code ++ ⟨#[10]⟩ ++ m.sj ++ ⟨#[10]⟩⟩ = 0 := by
    unfold envE
    rw [if_neg (by rw [user_nil]; decide), if_neg (by rw [h3]; decide), if_neg (by rintro (h | h); rw [p1] at h; cases h; exact h1 h), if_neg (by rw [p2]; decide), if_neg (by show ¬ (m.n < 0 ∨ 2147483647 < m.n); omega), if_neg (by rw [h2b]; decide)]
  have hb : (m.tu ++ ⟨#[64]⟩ ++ m.ts ++ ⟨#[32]⟩ ++ decI code ++ ⟨#[10]⟩ ++ m.sj ++ ⟨#[10]⟩ : ByteArray).size ≤ 32768 := by
    simp only [ByteArray.size_append, size_one]; omega
  unfold chkM
  rw [he, nd_ok, if_neg (by decide), if_neg (by decide), if_neg (by show ¬ 16 < 0; omega), if_neg (by show ¬ (0 : Int) ≠ 0; decide), if_neg (Nat.not_lt.2 hb)]
theorem pow7 : ∀ n : Nat, n ≤ 7 → (1 : Int) ≤ 2 ^ n ∧ (2 : Int) ^ n ≤ 128 := by
  intro n hn
  have : n = 0 ∨ n = 1 ∨ n = 2 ∨ n = 3 ∨ n = 4 ∨ n = 5 ∨ n = 6 ∨ n = 7 := by omega
  rcases this with rfl | rfl | rfl | rfl | rfl | rfl | rfl | rfl <;> decide
theorem pk {T : Prop} {W w6 : World} {n : Nat} {X : Obj} (k : K0 W w6) (hb : w6.heap[n]? = some X) (h : K0 W w6 → w6.heap[n]? = some X → T) : T := h k hb
theorem GT_kp {w w' : World} {b mb : Nat} {site : ByteArray} {last : Int} {l : List (Int × Qd)} (h : GT w) (hk : Kp (fun k => k = b ∨ k = mb) w w') (hQ : QR w b mb site last l) : GT w' := by
  unfold GT Lib.TabIs World.var? at *
  have hg : Tryz.prog.globalNamed "internal/strconv.uint64pow10" = some 1 := by kernel_rfl
  simp only [hg, Option.bind_some] at h ⊢
  have hlt : 1 < w.heap.size := by
    rcases Nat.lt_or_ge 1 w.heap.size with h' | h'
    · exact h'
    · rw [Array.getElem?_eq_none h'] at h; simp at h
  rw [hk.block 1 hlt]
  · exact h
  · rintro (e | e)
    · rw [e, hQ.blk] at h
      simp [Lib.pow10Tab] at h
      have := congrArg List.length h
      simp at this
    · obtain ⟨es, c, hb, _⟩ := hQ.map.blk
      rw [e, hb] at h
      simp [Lib.pow10Tab] at h
/-- What Fail answers and leaves. -/
def FailP (w w' : World) (b mb : Nat) (site : ByteArray) (last : Int) (l : List (Int × Qd)) (a now code : Int) (g : Bool) (e : Ending) : Prop :=
  (aget l a = none ∧ e = .returned (.tuple #[.int .i64 0, .bool false, .int .i64 8]) ∧ K0 w w') ∨
  (∃ x, aget l a = some x ∧ (
    (minB now = false ∧ e = .returned (.tuple #[.int .i64 0, .bool false, .int .i64 13]) ∧ K0 w w') ∨
    (minB now = true ∧ g = false ∧ x.f + 1 < 8 ∧ e = .returned (.tuple #[.int .i64 0, .bool false, .int .i64 0]) ∧ QR w' b mb site last (aset l a ⟨x.m, x.p, x.c, x.f + 1, failD x now⟩) ∧ Kp (fun k => k = b ∨ k = mb) w w') ∨
    (minB now = true ∧ (g = true ∨ 8 ≤ x.f + 1) ∧ bncM x.m site code now = none ∧ e = .returned (.tuple #[.int .i64 0, .bool false, .int .i64 0]) ∧ QR w' b mb site last (adel l a) ∧ Kp (fun k => k = b ∨ k = mb) w w') ∨
    (minB now = true ∧ (g = true ∨ 8 ≤ x.f + 1) ∧ ∃ y, bncM x.m site code now = some y ∧ e = .returned (.tuple #[.int .i64 (last + 1), .bool true, .int .i64 0]) ∧ (∃ (p' : Option Addr) (c' : Nat), QR w' b mb site (last + 1) (aset (adel l a) (last + 1) ⟨y, p', c', 0, now⟩)) ∧ Kp (fun k => k = b ∨ k = mb) w w')))
set_option maxHeartbeats 2000000 in
theorem qfail_any (b mb : Nat) (site : ByteArray) (last : Int) (l : List (Int × Qd)) (a now code : Int) (g : Bool) (w : World) (hQ : QR w b mb site last l) (ha : I64 a) (hcode : I64 code) (hlast : 0 ≤ last ∧ last ≤ 4611686018427387904) (hT : GT w) :
    Calls Tryz.prog 20 #[.pointer (some ⟨b, 0, none⟩), .int .i64 a, .int .i64 now, .int .i64 code, .bool g] w fun e w' => FailP w w' b mb site last l a now code g e := by
  refine vc_qfail b 0 a now code g w _ ⟨some mb, cell_at hQ.blk rfl, ?_⟩
  have hlk := hQ.look ha
  cases hg : aget l a with
  | none =>
    rw [hg] at hlk
    refine ⟨_, _, _, _, _, _, _, _, _, _, _, _, _, false, hlk, fun n1 => bsp_intro (fun _ => fun W hW => ?_) (fun h => by cases h)⟩
    exact .inl ⟨hg, rfl, hW.kk rfl⟩
  | some x =>
    rw [hg] at hlk
    have hlk : LookP Tryz.prog 104 (.map (some mb)) (.int .i64 a) true (.tuple #[qdV x, .bool true]) w := hlk
    obtain ⟨hx0, hx1, hx2, hx3⟩ := hQ.ok a x hg
    obtain ⟨hxs, hxd⟩ := hQ.str a x hg
    have hp7 := pow7 x.f.toNat (by omega)
    refine ⟨_, _, _, _, _, _, _, _, _, _, _, _, _, true, hlk, fun n1 => bsp_intro (fun h => by cases h) (fun _ => ?_)⟩
    have e1 : IntKind.i64.wrap (x.f + 1) = x.f + 1 := wr64 (by omega) (by omega)
    have e2 : IntKind.i64.wrap (x.f + 1 - 1) = x.f := by rw [wr64 (by omega) (by omega)]; omega
    have e3 : min x.f.toNat 64 = x.f.toNat := by omega
    rw [e1, e2, e3]
    refine bsp_intro (fun h => fun W hW => ?_) (fun h => ?_)
    · exact .inr ⟨x, hg, .inl ⟨by simpa using h, rfl, hW.kk rfl⟩⟩
    have hmin : minB now = true := by simpa using h
    have hmin' := hmin
    simp only [minB, Bool.and_eq_true, decide_eq_true_eq] at hmin'
    have e4 : IntKind.i64.wrap (now + IntKind.i64.wrap (5 * 2 ^ x.f.toNat)) = failD x now := by
      unfold failD
      rw [wr64 (x := 5 * 2 ^ x.f.toNat) (by omega) (by omega), wr64 (by omega) (by omega)]
    rw [e4]
    have hbl := block_lt hQ.blk
    have hml := hQ.map.lt
    refine ⟨x.f + 1, gimp_intro fun _ => fun W hW => cell_at (hW.cells 0 rfl) rfl, bsp_intro (fun hb => ?_) (fun hb => ?_)⟩
    · simp only [Bool.and_eq_true, Bool.not_eq_true', decide_eq_true_eq] at hb
      refine ⟨Int.nonneg_def.2 ⟨x.f.toNat, by omega⟩, some mb, fun W hW => cell_at ((hW.kk rfl : K0 w W).blk hQ.blk (fun h => h)) rfl, fun W hW => ?_⟩
      have kW : K0 w W := hW.kk rfl
      have gn : w.heap.size ≤ n1 := hW.fresh 0 rfl rfl
      obtain ⟨w1, hu, hQ1, k1⟩ := (hQ.k0 kW).upd ha ⟨x.m, x.p, x.c, x.f + 1, failD x now⟩ (hxs.k0 kW) hxd ⟨hx0, hx1, by show 0 ≤ x.f + 1; omega, by show x.f + 1 ≤ 7; omega⟩
      exact ⟨w1, hu, .of_kp k1 (fun y hy e => by simp at hy; omega), .inr ⟨x, hg, .inr (.inl ⟨hmin, hb.1, hb.2, rfl, hQ1, (Kp.mono kW (fun _ _ h => h.elim)).trans (k1.mono fun _ _ h => .inr h)⟩)⟩⟩
    · have hb' : g = true ∨ 8 ≤ x.f + 1 := by
        cases g with
        | true => exact .inl rfl
        | false => simp at hb; exact .inr (by omega)
      refine ⟨some mb, fun W hW => cell_at ((hW.kk rfl : K0 w W).blk hQ.blk (fun h => h)) rfl, fun W hW => ?_⟩
      have kW : K0 w W := hW.kk rfl
      have gn : w.heap.size ≤ n1 := hW.fresh 0 rfl rfl
      obtain ⟨w1, hu, hQ1, k1⟩ := (hQ.k0 kW).del ha
      refine ⟨w1, hu, .of_kp k1 (fun y hy e => by simp at hy; omega), fun W2 hW2 => ?_⟩
      have k2 : K0 w1 W2 := hW2.kk rfl
      have hQ2 := hQ1.k0 k2
      have hn2 : W2.heap[n1]? = some (.cells #[.string x.m.fu, .string x.m.fs, .string x.m.tu, .string x.m.ts, .int .i64 x.m.n, .int .i64 x.m.d, .string x.m.sj, .slice x.p x.m.hops.length x.c, .string x.m.bd, .int .i64 (x.f + 1), .int .i64 x.due] 110 (0, 0)) := hW2.cells 0 rfl
      have hxs2 : StrP W2 x.p x.m.hops := ((hxs.k0 kW).kp k1 (fun g o hg e => (hxd g o hg).2 e)).k0 k2
      have kk : Kp (fun k => k = b ∨ k = mb) w W2 := ((Kp.mono kW (fun _ _ h => h.elim)).trans (k1.mono fun _ _ h => .inr h)).trans (Kp.mono k2 (fun _ _ h => h.elim))
      have hgt : ∀ M : Nat → Prop, True := fun _ => trivial
      have hT2 : GT W2 := GT_kp hT kk hQ
      obtain ⟨z1, z2, z3, z4, z5, z6, z7, z8, z9, z10, z11, z12⟩ := chkM_bd hx0
      have hbn : ∀ wx, K0 W2 wx → _ := fun wx k => bounce_any x.m x.p x.c site code now wx (hxs2.k0 k) hx1 (by omega) (by omega) (hT2.k0 k) hcode
      refine ⟨fun wx => K0 W2 wx, .refl _ _, x.m.fu, x.m.fs, x.m.tu, x.m.ts, x.m.n, x.m.d, x.m.sj, x.p, x.m.hops.length, x.c, x.m.bd, fun wx k => AtL_block (k.blk hn2 (fun h => h)) rfl, site, fun wx k => cell_at (k.blk hQ2.blk (fun h => h)) rfl, ?_⟩
      refine ⟨⟨(hbn W2 (.refl _ _)).mono fun e w5 ⟨he, k5⟩ => ⟨_, _, _, _, _, _, _, _, _, _, _, _, he, fun n2 w6 hn => ⟨k5.trans (hn.kp _), WrL_block hn.block (Nat.le_refl 9), fun w7 hp => pk (put_k0 (k5.trans (hn.kp _)) hp (Nat.le_trans k5.size hn.ge)) (hp.full hn.block rfl) fun k7 hb7 => ?_⟩⟩⟩, fun n2 w5 hn => ⟨hn.kp _, ⟨(hbn w5 (hn.kp _)).mono fun e w6 ⟨he, k6⟩ => ⟨_, _, _, _, _, _, _, _, _, _, _, _, he, WrL_block (k6.blk hn.block (fun h => h)) (Nat.le_refl 9), fun w7 hp => pk (put_k0 ((hn.kp _).trans k6) hp hn.ge) (hp.full (k6.blk hn.block (fun h => h)) rfl) fun k7 hb7 => ?_⟩⟩⟩⟩
      all_goals
        refine ⟨.of_k0 k7, bsp_intro (fun h => ?_) (fun h => ?_)⟩
        · have hnone : bncM x.m site code now = none := by
            cases hq : bncM x.m site code now with
            | none => rfl
            | some y => rw [hq] at h; cases h
          exact .inr ⟨x, hg, .inr (.inr (.inl ⟨hmin, hb', hnone, rfl, hQ2.k0 k7, kk.trans (Kp.mono k7 (fun _ _ h => h.elim))⟩))⟩
        · cases hq : bncM x.m site code now with
          | none => rw [hq] at h; cases h
          | some y =>
            rw [hq] at hb7
            obtain ⟨hy0, hyh, _⟩ := bnc_ok hcode hq
            have hys : StrP w7 none y.hops := by rw [hyh]; intro k z hk; simp at hk
            refine ⟨_, _, _, _, _, _, _, _, _, _, _, AtL_block hb7 rfl, ⟨(qapp_any b mb site last (adel l a) y none 0 now w7 (hQ2.k0 k7) hys (fun _ _ h => by cases h) hy0 hlast).mono fun e w8 ⟨he, hq8, k8⟩ => ⟨_, he, .of_kp k8 (fun z hz e => by simp at hz; omega), ?_⟩⟩⟩
            exact .inr ⟨x, hg, .inr (.inr (.inr ⟨hmin, hb', y, hq, rfl, hq8, (kk.trans (Kp.mono k7 (fun _ _ h => h.elim))).trans k8⟩))⟩

end Go.Proofs.YtmlmdljnfokebaaGreatDoor
