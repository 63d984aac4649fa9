/- Chapter 39: the contracts of the functions of a nil queue, of the law's name, id, author. No condition. -/
import Derived.Test.YtfacflbmlfbeeaaGreatDoorZ10
import Derived.Test.YtfacflbmlfbeeaaGreatDoorZ11
import Derived.Test.YtfacflbmlfbeeaaGreatDoorZ09
import Derived.Test.YtfacflbmlfbeeaaGreatDoorProg
import Derived.Test.YtfacflbmlfbeeaaGreatDoorZ02
import Derived.Test.YtfacflbmlfbeeaaGreatDoorZ05
import Derived.Test.YtfacflbmlfbeeaaGreatDoorZ04
import Derived.KernelRfl
import Derived.Test.YtfacflbmlfbeeaaGreatDoorZ06
namespace Go.Proofs.YtfacflbmlfbeeaaGreatDoor
open Go.RowKit Go.Sort Go.Maps

theorem submit0_any (i : Nat → Int) (s t : ByteArray) (now : Int) (w : World) : Calls Tryz.prog 18 #[.pointer none, .agg (arrI .u8 i 32 0).toArray, .string s, .string t, .int .i64 now] w fun e w' => e = .returned (.int .i64 1) ∧ K0 w w' :=
  vc_submit0 i s t now w _ (fun _ W hW => ⟨(begin0_any now W).mono fun e w1 ⟨he, k1⟩ => ⟨_, he, .of_k0 k1, bsp_intro (fun _ => ⟨rfl, hW.k0 (.refl _ _) |>.trans k1⟩) (fun h => by cases h)⟩⟩)
theorem claim0_any (s : ByteArray) (a : Nat → Int) (now : Int) (w : World) : Calls Tryz.prog 39 #[.pointer none, .string s, .agg (arrI .u8 a 16 0).toArray, .int .i64 now] w fun e w' => e = .returned (.tuple #[sbV sbz, .int .i64 1]) ∧ K0 w w' :=
  vc_claim0 s a now w _ (fun _ _ _ _ W hW => ⟨(begin0_any now W).mono fun e w1 ⟨he, k1⟩ => ⟨_, he, .of_k0 k1, bsp_intro (fun _ W2 hW2 => ⟨rfl, hW2.k0 ((hW.kk rfl).trans k1)⟩) (fun h => by cases h)⟩⟩)
theorem release0_any (i : Nat → Int) (s : ByteArray) (a : Nat → Int) (now : Int) (w : World) : Calls Tryz.prog 43 #[.pointer none, .agg (arrI .u8 i 32 0).toArray, .string s, .agg (arrI .u8 a 16 0).toArray, .int .i64 now] w fun e w' => e = .returned (.int .i64 1) ∧ K0 w w' :=
  vc_release0 i s a now w _ (fun _ _ W hW => ⟨(begin0_any now W).mono fun e w1 ⟨he, k1⟩ => ⟨_, he, .of_k0 k1, bsp_intro (fun _ => ⟨rfl, (hW.kk rfl).trans k1⟩) (fun h => by cases h)⟩⟩)
theorem holder0_any (i : Nat → Int) (s : ByteArray) (now : Int) (w : World) : Calls Tryz.prog 41 #[.pointer none, .agg (arrI .u8 i 32 0).toArray, .string s, .int .i64 now] w fun e w' => e = .returned (.tuple #[.agg (arrI .u8 (fun _ => 0) 16 0).toArray, .bool false]) ∧ K0 w w' :=
  vc_holder0 i s now w _ (fun _ _ W hW => ⟨(begin0_any now W).mono fun e w1 ⟨he, k1⟩ => ⟨_, he, .of_k0 k1, bsp_intro (fun _ W2 hW2 => ⟨rfl, hW2.k0 ((hW.kk rfl).trans k1)⟩) (fun h => by cases h)⟩⟩)
theorem approve0_any (i : Nat → Int) (s : ByteArray) (a : Nat → Int) (now : Int) (w : World) : Calls Tryz.prog 19 #[.pointer none, .agg (arrI .u8 i 32 0).toArray, .string s, .agg (arrI .u8 a 16 0).toArray, .int .i64 now] w fun e w' => e = .returned (.tuple #[.agg (apC 0 (fun _ => 0) ⟨#[]⟩).toArray, .int .i64 1]) ∧ K0 w w' :=
  vc_approve0 i s a now w _ (fun _ _ _ W hW => ⟨(begin0_any now W).mono fun e w1 ⟨he, k1⟩ => ⟨_, he, .of_k0 k1, bsp_intro (fun _ W2 hW2 => ⟨rfl, hW2.k0 ((hW.kk rfl).trans k1)⟩) (fun h => by cases h)⟩⟩)
theorem reject0_any (i : Nat → Int) (s : ByteArray) (a : Nat → Int) (rs : ByteArray) (now : Int) (w : World) : Calls Tryz.prog 24 #[.pointer none, .agg (arrI .u8 i 32 0).toArray, .string s, .agg (arrI .u8 a 16 0).toArray, .string rs, .int .i64 now] w fun e w' => e = .returned (.int .i64 1) ∧ K0 w w' :=
  vc_reject0 i s a rs now w _ (fun _ _ W hW => ⟨(begin0_any now W).mono fun e w1 ⟨he, k1⟩ => ⟨_, he, .of_k0 k1, bsp_intro (fun _ => ⟨rfl, (hW.kk rfl).trans k1⟩) (fun h => by cases h)⟩⟩)
theorem lapse0_any (now : Int) (w : World) : Calls Tryz.prog 33 #[.pointer none, .int .i64 now] w fun e w' => e = .returned (.slice none 0 0) ∧ K0 w w' :=
  vc_lapse0 now w _ ⟨(begin0_any now w).mono fun e w1 ⟨he, k1⟩ => ⟨_, he, .of_k0 k1, bsp_intro (fun _ => ⟨rfl, k1⟩) (fun h => by cases h)⟩⟩
theorem get0_any (i : Nat → Int) (s : ByteArray) (w : World) : Calls Tryz.prog 21 #[.pointer none, .agg (arrI .u8 i 32 0).toArray, .string s] w fun e w' => e = .returned (.tuple #[sbV sbz, .bool false]) ∧ K0 w w' :=
  vc_get0 i s w _ (fun _ _ _ hW => ⟨rfl, hW.k0 (.refl _ _)⟩)
theorem selected0_any (f : FuncId) (fa fb : Array Value) (w : World) : Calls Tryz.prog 65 #[.pointer none, .func (.func f) fa fb] w fun e w' => e = .returned (.slice none 0 0) ∧ K0 w w' :=
  vc_selected0 f fa fb w _ ⟨rfl, .refl _ _⟩
theorem list0_any (s : ByteArray) (st : Int) (w : World) (hG : GW w) : Calls Tryz.prog 32 #[.pointer none, .string s, .int .i64 st] w fun e w' => e = .returned (.slice none 0 0) ∧ K0 w w' := by
  refine vc_list0 s st w _ (fun _ _ W hW => ⟨(selected0_any _ _ _ W).mono fun e w1 ⟨he, k1⟩ => ⟨none, 0, 0, he, .of_k0 k1, ?_⟩⟩)
  have k01 := (hW.kk rfl : K0 w W).trans k1
  exact ⟨(msort_any [] none 0 w1 (base := 0) (World.ownsRow_nil _ _ _ _) (fun x hx => by cases hx) (by decide) (hG.kp k01 (fun h => h))).mono fun e w2 ⟨he, l', hp, _, _, k2⟩ => ⟨he, .of_kp k2 (fun z hz => by cases hz), rfl, k01.trans (k2.mono fun i _ e => by cases e)⟩⟩
theorem count0_any (s : ByteArray) (st : Int) (w : World) (hG : GW w) : Calls Tryz.prog 15 #[.pointer none, .string s, .int .i64 st] w fun e w' => e = .returned (.int .i64 0) ∧ K0 w w' :=
  vc_count0 s st w _ ⟨(list0_any s st w hG).mono fun _ _ ⟨he, k1⟩ => ⟨none, 0, 0, he, .of_k0 k1, rfl, k1⟩⟩
theorem forget0_any (bf : Int) (w : World) : Calls Tryz.prog 44 #[.pointer none, .int .i64 bf] w fun e w' => e = .returned (.int .i64 0) ∧ K0 w w' := by
  refine vc_forget0 bf w _ (fun _ W hW => ⟨(selected0_any _ _ _ W).mono fun e w1 ⟨he, k1⟩ => ⟨none, 0, 0, he, .of_k0 k1, ?_⟩⟩)
  refine ⟨fun vs w' => vs = [.int .i64 0] ∧ K0 w w', fun _ _ => 0, ⟨rfl, (hW.kk rfl).trans k1⟩, ?_⟩
  rintro x w2 ⟨hv, k2⟩
  simp only [List.cons.injEq, Value.int.injEq, true_and, and_true] at hv
  subst hv
  exact bsp_intro (fun h => by exfalso; simp at h) (fun _ => ⟨rfl, k2⟩)
/-! ### The law's own functions -/
def nmG (n : Int) : ByteArray := match (n.tmod 7).toNat with
  | 2 => ⟨#[97, 46, 98]⟩
  | 4 => ⟨#[104]⟩
  | 5 => ⟨#[]⟩
  | 6 => ⟨#[71]⟩
  | _ => ⟨#[103]⟩
theorem lname_any (n : Int) (hn : 0 ≤ n) (w : World) : Calls Tryz.prog 30 #[.int .u8 n] w fun e w' => e = .returned (.string (nmG n)) ∧ K0 w w' := by
  refine vc_lname n w _ (fun n1 W hW => ⟨?_, nmG n, ?_, rfl, hW.kk rfl⟩)
  · rw [Int.tmod_eq_emod_of_nonneg hn]; omega
  · have h7 : (n.tmod 7).toNat < 7 := by rw [Int.tmod_eq_emod_of_nonneg hn]; omega
    unfold nmG
    generalize (n.tmod 7).toNat = k at h7
    obtain rfl | rfl | rfl | rfl | rfl | rfl | rfl : k = 0 ∨ k = 1 ∨ k = 2 ∨ k = 3 ∨ k = 4 ∨ k = 5 ∨ k = 6 := by omega
    all_goals exact cell_at (hW.cells 0 rfl) rfl
def idN (n : Int) : Nat → Int := fun j => if j = 31 then n.tmod 6 else 0
def auN (n : Int) : Nat → Int := fun j => if j = 15 then n.tmod 4 else 0
theorem lid_any (n : Int) (w : World) : Calls Tryz.prog 29 #[.int .u8 n] w fun e w' => e = .returned (.agg (arrI .u8 (idN n) 32 0).toArray) ∧ K0 w w' :=
  vc_lid n w _ (fun _ _ hW => ⟨rfl, hW.k0 (.refl _ _)⟩)
theorem lauthor_any (n : Int) (w : World) : Calls Tryz.prog 20 #[.int .u8 n] w fun e w' => e = .returned (.agg (arrI .u8 (auN n) 16 0).toArray) ∧ K0 w w' :=
  vc_lauthor n w _ (fun _ _ hW => ⟨rfl, hW.k0 (.refl _ _)⟩)

end Go.Proofs.YtfacflbmlfbeeaaGreatDoor

/- Chapter 39: the queue and the model side by side in the memory. -/
namespace Go.Proofs.YtfacflbmlfbeeaaGreatDoor
open Go.RowKit Go.Sort Go.Maps

/-- Both, made behind the world w0. -/
structure SW (w0 w : World) (b mb eb m : Nat) (q : Qu) (M : Mo) (P : Pl) : Prop where
  mq : Mq w b mb eb q
  qs : QSep w q
  mr : MoR w w0.heap.size m M P
  k : K0 w0 w
  gb : w0.heap.size ≤ b
  gm : w0.heap.size ≤ mb
  ge : w0.heap.size ≤ eb
section
variable {w0 w w' : World} {b mb eb m : Nat} {q q' : Qu} {M M' : Mo} {P P' : Pl}
theorem SW.k0 (h : SW w0 w b mb eb m q M P) (hk : K0 w w') : SW w0 w' b mb eb m q M P := ⟨h.mq.k0 hk, h.qs.k0 hk, h.mr.k0 hk, h.k.trans hk, h.gb, h.gm, h.ge⟩
theorem SW.qb (h : SW w0 w b mb eb m q M P) (hk : Kp (QB b mb eb) w w') : K0 w0 w' := h.k.fresh hk (fun i hi e => by
  have h1 := h.gb
  have h2 := h.gm
  have h3 := h.ge
  rcases e with e | e | e <;> omega)
theorem SW.mf (h : SW w0 w b mb eb m q M P) (hk : Kp (MF w w0.heap.size) w w') : K0 w0 w' := h.k.fresh hk (fun i hi e => by have := e.1; omega)
theorem SW.gw (h : SW w0 w b mb eb m q M P) (hG : GW w0) : GW w := hG.kp h.k (fun h => h)
end
/-! ### What an operation does to the model -/
def txO (t : ByteArray) : ByteArray := t.extract 0 (min t.size 300)
def auK (i a k : Int) : Nat → Int := fun j => if j = 15 then (IntKind.u8.wrap (i * k + a)).tmod 10 else 0
def moL (i a : Int) : List (Nat → Int) := (List.range (a.tmod 12).toNat).map fun k : Nat => auK i a (k : Int)
noncomputable def stpM (k i g a now : Int) (t : ByteArray) (M M' : Mo) : Prop :=
  match (k.tmod 8).toNat with
  | 0 => (xsubE M (idN i) (nmG g) (txO t) now = 0 ∧ ∃ L : List En, L.Perm (newE (idN i) (nmG g) (txO t) now :: M.es) ∧ M' = { M with es := L }) ∨ (xsubE M (idN i) (nmG g) (txO t) now ≠ 0 ∧ M' = M)
  | 1 => M' = xclM M (nmG g) (auN a) now
  | 2 => M' = xrlM M (idI (idN i), nmG g) (auN a) now
  | 3 => M' = xdcM M (idN i) (nmG g) (auN a) 1 ⟨#[]⟩ now
  | 4 => M' = xdcM M (idN i) (nmG g) (auN a) 2 (txO t) now
  | 5 => M' = xlpM M now
  | 6 => M' = { M with es := M.es.filter (kpP now) }
  | _ => (setE (nmG g) (moL i a) = 0 ∧ ∃ X : MX, X.l.Perm (moL i a) ∧ (X.l.Pairwise fun x y => cfA x y < 0) ∧ M' = { M with gs := gset M.gs (nmG g) X }) ∨ (setE (nmG g) (moL i a) ≠ 0 ∧ M' = M)

end Go.Proofs.YtfacflbmlfbeeaaGreatDoor

/- Chapter 39, plain: what an operation leaves of the entries; leases, lapses. No program in sight but in the definitions. -/
namespace Go.Proofs.YtfacflbmlfbeeaaGreatDoor
open Go.RowKit Go.Sort Go.Maps

/-! ### What an operation changes -/
def ws (M : Mo) : Nat := (M.ls ⟨#[]⟩ 0).length
theorem lsP_e (st : Int) (x : En) : lsP ⟨#[]⟩ st x = (x.s.st == st) := by unfold lsP; simp
theorem ws_eq (M : Mo) : ws M = (M.es.filter fun x => x.s.st == 0).length := by
  unfold ws Mo.ls
  rw [List.length_map, show lsP ⟨#[]⟩ 0 = fun x => x.s.st == 0 from funext fun x => lsP_e 0 x]
def Chg (k g a : Int) (M : Mo) (y y' : En) : Prop :=
  (y'.s = y.s ∧ (y'.ho = y.ho ∨ y'.ho = auN a ∨ y'.ho = fun _ => 0)) ∨
  (y.s.st = 0 ∧ y'.ho = (fun _ => 0) ∧ y'.s.ky = y.s.ky ∧ ((k.tmod 8 = 5 ∧ y'.s.st = 3 ∧ y'.s.mo = fun _ => 0) ∨ ((y'.s.st = 1 ∨ y'.s.st = 2) ∧ y'.s.mo = auN a ∧ y.s.g = nmG g ∧ isMB (M.md (nmG g)) (auN a) = true)))
section
variable {k i g a now : Int} {t : ByteArray} {M M' : Mo}
theorem Chg.refl {y : En} : Chg k g a M y y := .inl ⟨rfl, .inl rfl⟩
theorem Chg.st {y y' : En} (h : Chg k g a M y y') (h0 : y'.s.st = 0) : y.s.st = 0 := by
  rcases h with ⟨e, _⟩ | ⟨e, _⟩
  · rw [← e]; exact h0
  · exact e
theorem Chg.ky {y y' : En} (h : Chg k g a M y y') : y'.s.ky = y.s.ky := by
  rcases h with ⟨e, _⟩ | ⟨_, _, e, _⟩
  · rw [e]
  · exact e
theorem chg_up {c : Ky} {f : En → En} (h : ∀ y ∈ M.es, y.s.ky = c → Chg k g a M y (f y)) : ∃ G : En → En, M.up c f = { M with es := M.es.map G } ∧ ∀ y ∈ M.es, Chg k g a M y (G y) :=
  ⟨fun y => if y.s.ky = c then f y else y, rfl, fun y hy => by
    simp only
    split
    · rename_i e; exact h y hy e
    · exact .refl⟩
theorem chg_no : ∃ G : En → En, M = { M with es := M.es.map G } ∧ ∀ y ∈ M.es, Chg k g a M y (G y) := ⟨id, by rw [List.map_id], fun _ _ => .refl⟩
theorem xdc_some {id : Nat → Int} {g : ByteArray} {a : Nat → Int} {st : Int} {rs : ByteArray} (h : xdcE M id g a st rs now = 0) : isMB (M.md g) a = true ∧ ∃ y, M.fd (idI id, g) = some y ∧ y.s.st = 0 := by
  unfold xdcE at h
  split at h
  · exact absurd h (by decide)
  split at h
  · exact absurd h (by decide)
  split at h
  · exact absurd h (by decide)
  split at h
  · exact absurd h (by decide)
  rename_i hm
  have hm : isMB (M.md g) a = true := by simpa using hm
  cases hf : M.fd (idI id, g) with
  | none => simp only [hf] at h; exact absurd h (by decide)
  | some y =>
    simp only [hf] at h
    refine ⟨hm, y, rfl, ?_⟩
    split at h
    · exact absurd h (by decide)
    · rename_i h0; simpa using h0
theorem xdc_chg {st : Int} {rs : ByteArray} (hd : DisK M.es) (hst : st = 1 ∨ st = 2) : ∃ G : En → En, xdcM M (idN i) (nmG g) (auN a) st rs now = { M with es := M.es.map G } ∧ ∀ y ∈ M.es, Chg k g a M y (G y) := by
  unfold xdcM
  split
  · rename_i h0
    obtain ⟨hm, u, hu, h0⟩ := xdc_some h0
    refine chg_up fun y hy hk => ?_
    have hyu : y = u := by
      have h1 := (fd_iff hd).2 ⟨hy, hk⟩
      have hu : fdL M.es (idI (idN i), nmG g) = some u := hu
      rw [h1] at hu
      cases hu; rfl
    subst hyu
    exact .inr ⟨h0, rfl, rfl, .inr ⟨hst, rfl, (Prod.mk.inj hk).2, hm⟩⟩
  · exact chg_no
theorem stp_cases (hd : DisK M.es) (h : stpM k i g a now t M M') :
    (xsubE M (idN i) (nmG g) (txO t) now = 0 ∧ ∃ L : List En, L.Perm (newE (idN i) (nmG g) (txO t) now :: M.es) ∧ M' = { M with es := L }) ∨
    (∃ G : En → En, M' = { M with es := M.es.map G } ∧ ∀ y ∈ M.es, Chg k g a M y (G y)) ∨
    (k.tmod 8 = 6 ∧ ∃ P : En → Bool, M' = { M with es := M.es.filter P } ∧ ∀ y ∈ M.es, P y = false → y.s.st ≠ 0) ∨
    (∃ gs, M' = { M with gs := gs }) := by
  unfold stpM at h
  split at h
  · rcases h with ⟨h1, L, h2, h3⟩ | ⟨_, h⟩
    · exact .inl ⟨h1, L, h2, h3⟩
    · subst h; exact .inr (.inl chg_no)
  · subst h
    refine .inr (.inl ?_)
    unfold xclM
    split
    · exact chg_up fun y _ _ => .inl ⟨rfl, .inr (.inl rfl)⟩
    · exact chg_no
  · subst h
    refine .inr (.inl ?_)
    unfold xrlM
    split
    · exact chg_up fun y _ _ => .inl ⟨rfl, .inr (.inr rfl)⟩
    · exact chg_no
  · subst h
    exact .inr (.inl (xdc_chg hd (.inl rfl)))
  · subst h
    exact .inr (.inl (xdc_chg hd (.inr rfl)))
  · rename_i hk
    subst h
    refine .inr (.inl ?_)
    unfold xlpM
    split
    · refine ⟨_, rfl, fun y hy => ?_⟩
      unfold lpF
      split
      · rename_i hl
        refine .inr ⟨?_, rfl, rfl, .inl ⟨by omega, rfl, rfl⟩⟩
        unfold lapP at hl
        simp at hl
        exact hl.1
      · exact .refl
    · exact chg_no
  · rename_i hk
    subst h
    refine .inr (.inr (.inl ⟨by omega, _, rfl, fun y _ hp => ?_⟩))
    unfold kpP at hp
    simp at hp
    exact hp.1
  · rcases h with ⟨_, X, _, _, h⟩ | ⟨_, h⟩
    · exact .inr (.inr (.inr ⟨_, h⟩))
    · subst h; exact .inr (.inl chg_no)

/-! ### How many wait -/
theorem ws_map {G : En → En} : ∀ {es : List En}, (∀ y ∈ es, (G y).s.st = 0 → y.s.st = 0) → ((es.map G).filter fun x => x.s.st == 0).length ≤ (es.filter fun x => x.s.st == 0).length
  | [], _ => Nat.le_refl _
  | y :: es, h => by
    have ih := ws_map (es := es) fun z hz => h z (List.mem_cons_of_mem _ hz)
    rw [List.map_cons, List.filter_cons, List.filter_cons]
    have hy := h y List.mem_cons_self
    by_cases h1 : (G y).s.st = 0
    · rw [if_pos (by simpa using h1), if_pos (by simpa using hy h1)]
      simp only [List.length_cons]; omega
    · rw [if_neg (by simpa using h1)]
      split
      · simp only [List.length_cons]; omega
      · exact ih
theorem xsub_room {id : Nat → Int} {g tx : ByteArray} (h0 : xsubE M id g tx now = 0) : ¬ M.room ≤ ((M.ls ⟨#[]⟩ 0).length : Nat) := by
  intro hr
  unfold xsubE at h0
  split at h0
  · exact absurd h0 (by decide)
  split at h0
  · rename_i hg; exact hg h0
  split at h0
  · exact absurd h0 (by decide)
  split at h0
  · exact absurd h0 (by decide)
  split at h0
  · exact absurd h0 (by decide)
  exact absurd h0 (by decide)
theorem ws_ins {id : Nat → Int} {g tx : ByteArray} {L : List En} (h0 : xsubE M id g tx now = 0) (hp : L.Perm (newE id g tx now :: M.es)) : (ws { M with es := L } : Int) ≤ M.room := by
  have h1 := xsub_room h0
  have h2 : ¬ M.room ≤ (ws M : Int) := h1
  have h3 : ws { M with es := L } = ws M + 1 := by
    rw [ws_eq, ws_eq]
    show (L.filter _).length = _
    rw [(hp.filter _).length_eq, List.filter_cons, if_pos (by rfl)]
    rfl
  omega
theorem ws_step (hd : DisK M.es) (h : stpM k i g a now t M M') (hw : (ws M : Int) ≤ M.room) : M'.room = M.room ∧ M'.days = M.days ∧ (ws M' : Int) ≤ M.room := by
  rcases stp_cases hd h with ⟨h0, L, hp, rfl⟩ | ⟨G, rfl, hG⟩ | ⟨_, P, rfl, hP⟩ | ⟨gs, rfl⟩
  · exact ⟨rfl, rfl, ws_ins h0 hp⟩
  · refine ⟨rfl, rfl, ?_⟩
    have : ws { M with es := M.es.map G } ≤ ws M := by
      rw [ws_eq, ws_eq]
      exact ws_map fun y hy => (hG y hy).st
    omega
  · refine ⟨rfl, rfl, ?_⟩
    have : ws { M with es := M.es.filter P } ≤ ws M := by
      rw [ws_eq, ws_eq]
      exact (List.filter_sublist.filter _).length_le
    omega
  · exact ⟨rfl, rfl, hw⟩

/-! ### What is decided stays -/
/-! ### Who holds -/
def HoI (M : Mo) : Prop := ∀ y ∈ M.es, ∃ b, y.ho = auN b
theorem auN_0 : auN 0 = fun _ => 0 := by
  funext j
  unfold auN
  split <;> rfl
theorem ho_step (hd : DisK M.es) (h : stpM k i g a now t M M') (hI : HoI M) : HoI M' := by
  rcases stp_cases hd h with ⟨h0, L, hp, rfl⟩ | ⟨G, rfl, hG⟩ | ⟨_, P, rfl, hP⟩ | ⟨gs, rfl⟩
  · intro y hy
    rcases List.mem_cons.1 (hp.subset hy) with rfl | hy
    · exact ⟨0, auN_0.symm⟩
    · exact hI y hy
  · intro z hz
    obtain ⟨y, hy, rfl⟩ := List.mem_map.1 hz
    rcases hG y hy with ⟨_, e | e | e⟩ | ⟨_, e, _⟩
    · rw [e]; exact hI y hy
    · exact ⟨a, e⟩
    · exact ⟨0, by rw [e, auN_0]⟩
    · exact ⟨0, by rw [e, auN_0]⟩
  · intro y hy
    exact hI y (List.mem_filter.1 hy).1
  · exact hI
end

/-! ### Leases, one after another -/
def A1 (j : Int) : Nat → Int := fun n => if n = 1 then j else 0
theorem A1_ne {j : Int} {f : Nat → Int} (h : f 1 ≠ j) : auI f ≠ auI (A1 j) := fun e => by
  have h1 := congrArg (fun l : List Int => l[1]?) e
  simp [auI, A1] at h1
  exact h h1
structure LeI (i : Int) (now : Int) (g : ByteArray) (M : Mo) (got : List Sb) : Prop where
  ho : ∀ y ∈ M.es, y.ho 1 ≤ i
  bk : ∀ s, got.getLast? = some s → ∀ y ∈ M.es, y.s.g = g → y.s.st = 0 → ¬ cfM s y.s < 0 → inE y now = true
  srt : M.es.Pairwise fun x y => cfM x.s y.s < 0
  dis : DisK M.es
theorem LeI.z {now : Int} {g : ByteArray} {M : Mo} (h : HoI M) (hs : M.es.Pairwise fun x y => cfM x.s y.s < 0) (hd : DisK M.es) : LeI 0 now g M [] := ⟨fun y hy => by
  obtain ⟨b, e⟩ := h y hy
  rw [e]
  show (if 1 = 15 then b.tmod 4 else 0) ≤ _
  rw [if_neg (by decide)]
  exact Int.le_refl _, fun s h => (by cases h), hs, hd⟩
theorem LeI.step {i now : Int} {g : ByteArray} {M : Mo} {got : List Sb} (h : LeI i now g M got) (h0 : xclE M g (A1 (i + 1)) now = 0) :
    (xclS M g (A1 (i + 1)) now).st = 0 ∧ (xclS M g (A1 (i + 1)) now).g = g ∧ (∀ s, got.getLast? = some s → cfM s (xclS M g (A1 (i + 1)) now) < 0) ∧ LeI (i + 1) now g (xclM M g (A1 (i + 1)) now) (got ++ [xclS M g (A1 (i + 1)) now]) ∧
      fdL (xclM M g (A1 (i + 1)) now).es (xclS M g (A1 (i + 1)) now).ky = some ⟨xclS M g (A1 (i + 1)) now, true, A1 (i + 1), now⟩ := by
  have hb : ∀ y ∈ M.es, blk y (auI (A1 (i + 1))) now = inE y now := fun y hy => by
    unfold blk
    rw [show decide (auI y.ho = auI (A1 (i + 1))) = false from decide_eq_false (A1_ne (by have := h.ho y hy; omega))]
    simp
  cases hf : M.es.find? (clP g (auI (A1 (i + 1))) now) with
  | none =>
    unfold xclE at h0
    simp only [hf] at h0
    split at h0
    · exact absurd h0 (by decide)
    · split at h0
      · exact absurd h0 (by decide)
      · exact absurd h0 (by decide)
  | some e =>
    have em := List.mem_of_find?_eq_some hf
    have ep := List.find?_some hf
    have eS : xclS M g (A1 (i + 1)) now = e.s := by unfold xclS; rw [if_pos h0, hf]; rfl
    have eM : xclM M g (A1 (i + 1)) now = M.up e.s.ky (fun y => ⟨y.s, true, A1 (i + 1), now⟩) := by unfold xclM; rw [if_pos h0, eS]
    have ep2 : (e.s.g = g ∧ e.s.st = 0) ∧ inE e now = false := by
      unfold clP at ep
      rw [hb e em] at ep
      simpa using ep
    obtain ⟨_, l1, bs, hes, has⟩ := List.find?_eq_some_iff_append.1 hf
    rw [eS, eM]
    have hky : ∀ y ∈ M.es, y.s.ky = e.s.ky → y = e := fun y hy hk => by
      have e1 := (fd_iff h.dis).2 ⟨hy, hk⟩
      have e2 := (fd_iff h.dis).2 ⟨em, rfl⟩
      rw [e1] at e2
      cases e2; rfl
    have hdis : DisK (M.up e.s.ky (fun y => ⟨y.s, true, A1 (i + 1), now⟩)).es := by
      refine List.pairwise_map.2 (h.dis.imp fun {x y} hxy => ?_)
      have e1 : ∀ z : En, (if z.s.ky = e.s.ky then (⟨z.s, true, A1 (i + 1), now⟩ : En) else z).s = z.s := fun z => by split <;> rfl
      rw [e1, e1]; exact hxy
    refine ⟨ep2.1.2, ep2.1.1, fun s hs => Classical.byContradiction fun hn => ?_, ⟨fun z hz => ?_, fun s hs z hz hg hst hc => ?_, ?_, hdis⟩, ?_⟩
    · have := h.bk s hs e em ep2.1.1 ep2.1.2 hn
      rw [this] at ep2
      exact absurd ep2.2 (by decide)
    · obtain ⟨y, hy, rfl⟩ := List.mem_map.1 hz
      split
      · show (if 1 = 1 then i + 1 else 0) ≤ _
        rw [if_pos rfl]; exact Int.le_refl _
      · have := h.ho y hy
        omega
    · rw [List.getLast?_append] at hs
      simp at hs
      subst hs
      obtain ⟨y, hy, rfl⟩ := List.mem_map.1 hz
      split
      · unfold inE
        simp
      · rename_i hne
        have e1 : (if y.s.ky = e.s.ky then (⟨y.s, true, A1 (i + 1), now⟩ : En) else y) = y := if_neg hne
        rw [e1] at hg hst hc
        have hy2 := hy
        rw [hes] at hy2
        rcases List.mem_append.1 hy2 with hm | hm
        · have := has y hm
          unfold clP at this
          rw [hb y hy] at this
          simp only [hg, hst, decide_true, Bool.true_and, Bool.not_not, beq_self_eq_true] at this
          exact this
        · rcases List.mem_cons.1 hm with rfl | hm
          · exact absurd rfl hne
          · have hs2 := h.srt
            rw [hes, List.pairwise_append] at hs2
            exact absurd ((List.pairwise_cons.1 hs2.2.1).1 y hm) hc
    · refine List.pairwise_map.2 (h.srt.imp fun {x y} hxy => ?_)
      have e1 : ∀ z : En, (if z.s.ky = e.s.ky then (⟨z.s, true, A1 (i + 1), now⟩ : En) else z).s = z.s := fun z => by split <;> rfl
      rw [e1, e1]; exact hxy
    · exact (fd_iff hdis).2 ⟨List.mem_map.2 ⟨e, em, if_pos rfl⟩, rfl⟩

/-! ### Lapses -/
end Go.Proofs.YtfacflbmlfbeeaaGreatDoor

/- Chapter 39, plain: the operations are determined; queues are equal exactly if the models are. No program in sight but in the definitions. -/
namespace Go.Proofs.YtfacflbmlfbeeaaGreatDoor
open Go.RowKit Go.Sort Go.Maps

/-! ### Models that say the same -/
def gpl (y : Gx) : ByteArray × List (Nat → Int) := (y.g, y.x.l)
structure MoE (M N : Mo) : Prop where
  room : N.room = M.room
  days : N.days = M.days
  es : N.es = M.es
  gs : N.gs.map gpl = M.gs.map gpl
theorem MoE.refl (M : Mo) : MoE M M := ⟨rfl, rfl, rfl, rfl⟩
theorem gfind {g : ByteArray} : ∀ {l m : List Gx}, l.map gpl = m.map gpl → ((((l.find? fun y => decide (y.g = g)).map (·.x)).getD mxz)).l = ((((m.find? fun y => decide (y.g = g)).map (·.x)).getD mxz)).l
  | [], [], _ => rfl
  | [], _ :: _, h => by simp at h
  | _ :: _, [], h => by simp at h
  | y :: l, z :: m, h => by
    simp only [List.map_cons, List.cons.injEq] at h
    obtain ⟨h1, h2⟩ := h
    unfold gpl at h1
    obtain ⟨e1, e2⟩ := Prod.mk.inj h1
    rw [List.find?_cons, List.find?_cons, e1]
    cases hd : decide (z.g = g) with
    | true => exact e2
    | false => exact gfind h2
section
variable {M N M' N' : Mo}
theorem MoE.md (h : MoE M N) (g : ByteArray) : (N.md g).l = (M.md g).l := gfind h.gs
theorem MoE.mb (h : MoE M N) (g : ByteArray) (a : Nat → Int) : isMB (N.md g) a = isMB (M.md g) a := by unfold isMB; rw [h.md]
theorem MoE.fd (h : MoE M N) (k : Ky) : N.fd k = M.fd k := by unfold Mo.fd; rw [h.es]
theorem MoE.ls (h : MoE M N) (g : ByteArray) (st : Int) : N.ls g st = M.ls g st := by unfold Mo.ls; rw [h.es]
theorem MoE.sub (h : MoE M N) (id : Nat → Int) (g tx : ByteArray) (now : Int) : xsubE N id g tx now = xsubE M id g tx now := by
  unfold xsubE
  rw [h.md, h.fd, h.ls, h.room]
theorem MoE.cl (h : MoE M N) (g : ByteArray) (a : Nat → Int) (now : Int) : xclE N g a now = xclE M g a now ∧ xclS N g a now = xclS M g a now := by
  have e1 : xclE N g a now = xclE M g a now := by
    unfold xclE
    rw [h.mb, h.es]
  refine ⟨e1, ?_⟩
  unfold xclS
  rw [e1, h.es]
theorem MoE.rl (h : MoE M N) (k : Ky) (a : Nat → Int) (now : Int) : xrlE N k a now = xrlE M k a now := by
  unfold xrlE
  rw [h.fd]
theorem MoE.dc (h : MoE M N) (id : Nat → Int) (g : ByteArray) (a : Nat → Int) (st : Int) (rs : ByteArray) (now : Int) : xdcE N id g a st rs now = xdcE M id g a st rs now := by
  unfold xdcE
  rw [h.fd, h.mb]
theorem MoE.up (h : MoE M N) (k : Ky) (f : En → En) : MoE (M.up k f) (N.up k f) := ⟨h.room, h.days, by unfold Mo.up; rw [h.es], h.gs⟩
end
theorem gset_pl {g : ByteArray} {X Y : MX} (hX : Y.l = X.l) : ∀ {l m : List Gx}, m.map gpl = l.map gpl → (gset m g Y).map gpl = (gset l g X).map gpl
  | [], [], _ => by unfold gset gpl; simp [hX]
  | [], _ :: _, h => by simp at h
  | _ :: _, [], h => by simp at h
  | y :: l, z :: m, h => by
    simp only [List.map_cons, List.cons.injEq] at h
    obtain ⟨h1, h2⟩ := h
    have h1' := h1
    unfold gpl at h1'
    obtain ⟨e1, e2⟩ := Prod.mk.inj h1'
    unfold gset
    rw [e1]
    split
    · simp only [List.map_cons, h2]
      unfold gpl; simp [hX]
    · simp only [List.map_cons, h1, gset_pl hX h2]
theorem sort_uniq {α : Type} {cf : α → α → Int} (hc : ∀ a b, cf a b = - cf b a) {l m : List α} (hp : l.Perm m) (h1 : l.Pairwise fun x y => cf x y < 0) (h2 : m.Pairwise fun x y => cf x y < 0) : l = m :=
  perm_uniq39 (R := fun x y => cf x y < 0) hp h1 h2 fun a _ b _ h3 h4 => by
    have := hc a b
    omega
theorem MoE.step {k i g a now : Int} {t : ByteArray} {M N M' N' : Mo} (h : MoE M N) (h1 : stpM k i g a now t M M') (h2 : stpM k i g a now t N N') (s1 : M'.es.Pairwise fun x y => cfM x.s y.s < 0) (s2 : N'.es.Pairwise fun x y => cfM x.s y.s < 0) : MoE M' N' := by
  unfold stpM at h1 h2
  generalize (k.tmod 8).toNat = j at h1 h2
  match j, h1, h2 with
  | 0, h1, h2 =>
    simp only at h1 h2
    rw [h.sub] at h2
    rcases h1 with ⟨a1, L, b1, rfl⟩ | ⟨a1, rfl⟩ <;> rcases h2 with ⟨a2, L2, b2, rfl⟩ | ⟨a2, rfl⟩
    · refine ⟨h.room, h.days, ?_, h.gs⟩
      rw [h.es] at b2
      exact sort_uniq (cf := fun x y : En => cfM x.s y.s) (fun a b => cfM_ord.anti a.s b.s) (b2.trans b1.symm) s2 s1
    · exact absurd a1 a2
    · exact absurd a2 a1
    · exact h
  | 1, h1, h2 =>
    simp only at h1 h2
    subst h1 h2
    unfold xclM
    rw [(h.cl _ _ _).1, (h.cl _ _ _).2]
    split
    · exact h.up _ _
    · exact h
  | 2, h1, h2 =>
    simp only at h1 h2
    subst h1 h2
    unfold xrlM
    rw [h.rl]
    split
    · exact h.up _ _
    · exact h
  | 3, h1, h2 =>
    simp only at h1 h2
    subst h1 h2
    unfold xdcM
    rw [h.dc]
    split
    · exact h.up _ _
    · exact h
  | 4, h1, h2 =>
    simp only at h1 h2
    subst h1 h2
    unfold xdcM
    rw [h.dc]
    split
    · exact h.up _ _
    · exact h
  | 5, h1, h2 =>
    simp only at h1 h2
    subst h1 h2
    unfold xlpM
    split
    · exact ⟨h.room, h.days, by rw [h.es, h.days], h.gs⟩
    · exact h
  | 6, h1, h2 =>
    simp only at h1 h2
    subst h1 h2
    exact ⟨h.room, h.days, by rw [h.es], h.gs⟩
  | j + 7, h1, h2 =>
    simp only at h1 h2
    rcases h1 with ⟨a1, X, b1, c1, rfl⟩ | ⟨a1, rfl⟩ <;> rcases h2 with ⟨a2, Y, b2, c2, rfl⟩ | ⟨a2, rfl⟩
    · exact ⟨h.room, h.days, h.es, gset_pl (sort_uniq (cf := cfA) cfA_ord.anti (b2.trans b1.symm) c2 c1) h.gs⟩
    · exact absurd a1 a2
    · exact absurd a2 a1
    · exact h

/-! ### The groups' names -/
def NmD (M : Mo) : Prop := M.gs.Pairwise fun x y => x.g ≠ y.g
theorem gset_nm {g : ByteArray} {X : MX} : ∀ {l : List Gx}, (l.Pairwise fun x y => x.g ≠ y.g) → (gset l g X).Pairwise fun x y => x.g ≠ y.g
  | [], _ => by unfold gset; simp
  | y :: l, h => by
    have h1 := List.pairwise_cons.1 h
    unfold gset
    split
    · rename_i e
      exact List.pairwise_cons.2 ⟨fun z hz => by show g ≠ z.g; rw [← e]; exact h1.1 z hz, h1.2⟩
    · rename_i e
      refine List.pairwise_cons.2 ⟨fun z hz => ?_, gset_nm h1.2⟩
      rcases gset_mem hz with rfl | hz
      · exact e
      · exact h1.1 z hz
theorem NmD.step {k i g a now : Int} {t : ByteArray} {M M' : Mo} (h : NmD M) (h1 : stpM k i g a now t M M') : NmD M' := by
  have hup : ∀ (k : Ky) (f : En → En), NmD (M.up k f) := fun _ _ => h
  unfold stpM at h1
  split at h1
  · rcases h1 with ⟨_, L, _, rfl⟩ | ⟨_, rfl⟩ <;> exact h
  · subst h1; unfold xclM; split <;> exact h
  · subst h1; unfold xrlM; split <;> exact h
  · subst h1; unfold xdcM; split <;> exact h
  · subst h1; unfold xdcM; split <;> exact h
  · subst h1; unfold xlpM; split <;> exact h
  · subst h1; exact h
  · rcases h1 with ⟨_, X, _, _, rfl⟩ | ⟨_, rfl⟩
    · exact gset_nm h
    · exact h
/-! ### When the queues are equal -/
/-- Every group that is kept has moderators. -/
def MsN (q : Qu) : Prop := ∀ g x, aget q.ms g = some x → x.l ≠ []
theorem MsN.is {q : Qu} (h : MsN q) (g : ByteArray) : (aget q.ms g).isSome = !decide ((q.md g).l = []) := by
  unfold Qu.md
  cases hg : aget q.ms g with
  | none => rfl
  | some x => simp [h g x hg]
end Go.Proofs.YtfacflbmlfbeeaaGreatDoor

/- Chapter 39: the contracts of the queue's functions, told by the model beside it. Bytes are bytes; lists are not too long. -/
namespace Go.Proofs.YtfacflbmlfbeeaaGreatDoor
open Go.RowKit Go.Sort Go.Maps

/-- What stays true from operation to operation. -/
structure St (r d : Int) (M : Mo) : Prop where
  room : M.room = r
  days : M.days = d
  ws : (ws M : Int) ≤ M.room
  ho : HoI M
theorem St.step {r d k i g a now : Int} {t : ByteArray} {M M' : Mo} (h : St r d M) (hd : DisK M.es) (hs : stpM k i g a now t M M') : St r d M' := by
  obtain ⟨h1, h2, h3⟩ := ws_step hd hs h.ws
  exact ⟨h1.trans h.room, h2.trans h.days, by rw [h1]; exact h3, ho_step hd hs h.ho⟩
section
variable {w0 w : World} {b mb eb m n : Nat} {q : Qu} {M : Mo} {P : Pl}
theorem SW.list (h : SW w0 w b mb eb m q M P) (r : Rq n q M) (hn : n ≤ 10000) (hG : GW w0) (g : ByteArray) (st : Int) :
    Calls Tryz.prog 32 #[.pointer (some ⟨b, 0, none⟩), .string g, .int .i64 st] w fun e w' => (∃ (p : Option Addr) (c : Nat), e = .returned (.slice p (M.ls g st).length c) ∧ w'.ownsRow w.heap.size 48 54 (.slice p (M.ls g st).length c) (M.ls g st).length ((M.ls g st).flatMap sbC)) ∧ K0 w w' :=
  (list_any h.mq r.qo (by have := r.ql; omega) g st (h.gw hG)).mono fun e w' ⟨⟨p, c, l, he, hp, hs, ho⟩, k⟩ => by
    have e1 : l = M.ls g st := r.uniq hp hs
    subst e1
    exact ⟨⟨p, c, he, ho⟩, k⟩
theorem SW.count (h : SW w0 w b mb eb m q M P) (r : Rq n q M) (hn : n ≤ 10000) (hG : GW w0) (g : ByteArray) (st : Int) :
    Calls Tryz.prog 15 #[.pointer (some ⟨b, 0, none⟩), .string g, .int .i64 st] w fun e w' => e = .returned (.int .i64 ((M.ls g st).length : Nat)) ∧ K0 w w' :=
  (count_any h.mq r.qo (by have := r.ql; omega) g st (h.gw hG)).mono fun e w' ⟨he, k⟩ => by
    have e1 : (selE (lsP g st) q.es).length = (M.ls g st).length := (r.sel (lsP g st)).length_eq
    exact ⟨by rw [he, e1], k⟩
theorem SW.get (h : SW w0 w b mb eb m q M P) (r : Rq n q M) (id : Nat → Int) (hid : BY id) (g : ByteArray) (hg : g.size ≤ 1073741824) :
    Calls Tryz.prog 21 #[.pointer (some ⟨b, 0, none⟩), .agg (arrI .u8 id 32 0).toArray, .string g] w fun e w' => e = .returned (.tuple #[sbV ((fdL M.es (idI id, g)).getD enz).s, .bool (fdL M.es (idI id, g)).isSome]) ∧ K0 w w' :=
  (get_any h.mq id hid g hg).mono fun e w' ⟨he, k⟩ => by
    rw [r.fd]
    exact ⟨he, k⟩
end

end Go.Proofs.YtfacflbmlfbeeaaGreatDoor

/- Chapter 39: the contract of the reference's All (code points of a text). Texts that are not too long. -/
namespace Go.Proofs.YtfacflbmlfbeeaaGreatDoor
open Go.RowKit

end Go.Proofs.YtfacflbmlfbeeaaGreatDoor

/- Chapter 39: the contract of the reference's decide. Bytes are bytes; lists are not too long. -/
namespace Go.Proofs.YtfacflbmlfbeeaaGreatDoor
open Go.RowKit Go.Sort Go.Maps

end Go.Proofs.YtfacflbmlfbeeaaGreatDoor

/- Chapter 39: the contract of the reference's submit. Printed by mkxsub39.py. Bytes are bytes; lists are not too long. -/
namespace Go.Proofs.YtfacflbmlfbeeaaGreatDoor
open Go.RowKit Go.Sort Go.Maps

end Go.Proofs.YtfacflbmlfbeeaaGreatDoor

/- The formulas of functions by the symbolic evaluator, and that each gives the call's contract. Written by a program (gen.py). No condition. -/
namespace Go.Proofs.YtfacflbmlfbeeaaGreatDoor
set_option maxRecDepth 100000
set_option linter.unusedVariables false

end Go.Proofs.YtfacflbmlfbeeaaGreatDoor

/- Chapter 39: the contract of the law's start: a queue and its model, with moderators of two groups. The library's variable MaxLen holds a number. -/
namespace Go.Proofs.YtfacflbmlfbeeaaGreatDoor
open Go.RowKit Go.Sort Go.Maps

def kAB : ByteArray := ⟨#[97, 46, 98]⟩
/-- What start makes. -/
structure M0 (room days : Int) (M : Mo) : Prop where
  room : M.room = room
  days : M.days = days
  es : M.es = []
  gs : M.gs.map gpl = [(kG, [auN 0, auN 1, auN 2]), (kAB, [auN 1])]
theorem M0.nm {r d : Int} {M : Mo} (h : M0 r d M) : NmD M := by
  have e : M.gs.Pairwise fun x y => (gpl x).1 ≠ (gpl y).1 := by
    rw [← List.pairwise_map (f := gpl) (R := fun a b => a.1 ≠ b.1), h.gs]
    have : ¬ kG = kAB := by decide
    simp [this]
  exact e
theorem M0.st {r d : Int} {M : Mo} (h : M0 r d M) (hr : 0 ≤ r) : St r d M := ⟨h.room, h.days, by rw [ws_eq, h.es, h.room]; exact hr, fun y hy => by rw [h.es] at hy; cases hy⟩
theorem M0.md {r d : Int} {M : Mo} (h : M0 r d M) : (M.md kG).l = [auN 0, auN 1, auN 2] := by
  have e : M.gs.map gpl = [(⟨kG, ⟨[auN 0, auN 1, auN 2], none, 0⟩⟩ : Gx), ⟨kAB, ⟨[auN 1], none, 0⟩⟩].map gpl := by rw [h.gs]; rfl
  have := gfind (g := kG) e
  unfold Mo.md
  rw [this]
  rw [List.find?_cons, show decide (kG = kG) = true from rfl]
  rfl
end Go.Proofs.YtfacflbmlfbeeaaGreatDoor

/- The formulas of functions by the symbolic evaluator, and that each gives the call's contract. Written by a program (gen.py). No condition. -/
namespace Go.Proofs.YtfacflbmlfbeeaaGreatDoor
set_option maxRecDepth 100000
set_option linter.unusedVariables false

end Go.Proofs.YtfacflbmlfbeeaaGreatDoor

/- The formulas of functions by the symbolic evaluator, and that each gives the call's contract. Written by a program (gen.py). No condition. -/
namespace Go.Proofs.YtfacflbmlfbeeaaGreatDoor
set_option maxRecDepth 100000
set_option linter.unusedVariables false

end Go.Proofs.YtfacflbmlfbeeaaGreatDoor

/- Chapter 39: the contract of ModerationCommands. Bytes are bytes; texts are not too long; the library's variable MaxLen holds a number. -/
namespace Go.Proofs.YtfacflbmlfbeeaaGreatDoor
open Go.RowKit Go.Sort Go.Maps

/-! ### Commands are compared -/
/-! ### What stands in the queue -/
structure Q1 (q : Qu) (k : Ky) (e : En) : Prop where
  ok : q.OK
  ln : q.es.length ≤ 10000
  en : aget q.es k = some e
  md : ∀ c, c = 1 ∨ c = 2 → isMB (q.md kG) (auN c) = true
end Go.Proofs.YtfacflbmlfbeeaaGreatDoor

/- Chapter 39: the contract of ModerationCommands. Bytes are bytes; texts are not too long; the library's variable MaxLen holds a number. -/
namespace Go.Proofs.YtfacflbmlfbeeaaGreatDoor
open Go.RowKit Go.Sort Go.Maps

section
variable {w0 w w' : World} {b mb eb m : Nat} {q : Qu} {M : Mo} {P : Pl}
theorem SW.off (h : SW w0 w b mb eb m q M P) {N : Nat → Prop} {t : TypeId} (hk : Kp N w w') (hN : ∀ k, N k → w0.heap.size ≤ k ∧ ∃ c f, w.heap[k]? = some (.cells c t f)) (ht : (t == 57 || t == 93 || t == 91 || t == 45) = false) (hq : (t == 98) = false) : SW w0 w' b mb eb m q M P := by
  have no : ∀ {k : Nat} {c : Array Value} {t' : TypeId} {f : Nat × Nat}, w.heap[k]? = some (.cells c t' f) → (t == t') = false → ¬ N k := fun hc hne hn => by
    obtain ⟨_, c', f', hc'⟩ := hN _ hn
    rw [hc] at hc'
    cases hc'
    simp at hne
  have nm : ∀ {k : Nat} {es : Array MapEntry} {c : Nat}, w.heap[k]? = some (.map es c) → ¬ N k := fun hc hn => by
    obtain ⟨_, c', f', hc'⟩ := hN _ hn
    rw [hc] at hc'
    cases hc'
  have ta : (t == 45) = false := by
    simp only [Bool.or_eq_false_iff] at ht
    exact ht.2
  have n1 : ¬ N mb := by obtain ⟨es, c', hb, _⟩ := h.mq.mm.blk; exact nm hb
  have n2 : ¬ N eb := by obtain ⟨es, c', hb, _⟩ := h.mq.me.blk; exact nm hb
  refine ⟨⟨hk.blk h.mq.st (no h.mq.st hq), h.mq.mm.kp hk n1, h.mq.me.kp hk n2, fun g x hx => (h.mq.row g x hx).ty (h.qs g x hx) hk (fun k c f hc => no hc ta), h.mq.ne, h.mq.nz⟩, fun g x hx => (h.qs g x hx).kp hk (fun k c f hc => no hc ta), h.mr.off hk (fun k hn => (hN k hn).2) ht, h.k.fresh hk (fun i hi hn => ?_), h.gb, h.gm, h.ge⟩
  have := (hN i hn).1
  omega
end
/-- Blocks of cells that are no queue are kept. -/
def KQ (w w' : World) : Prop := w.heap.size ≤ w'.heap.size ∧ ∀ (k : Nat) (c : Array Value) (t : TypeId) (f : Nat × Nat), w.heap[k]? = some (.cells c t f) → (t == 98) = false → w'.heap[k]? = some (.cells c t f)
theorem Mq.kq {w w' : World} {b mb eb : Nat} {q : Qu} (h : Mq w b mb eb q) (hk : Kp (QB b mb eb) w w') : KQ w w' := ⟨hk.size, fun _ _ _ _ hc ht => hk.blk hc (h.not_ty hc ht)⟩
end Go.Proofs.YtfacflbmlfbeeaaGreatDoor

/- Chapter 39: what an operation keeps; small facts for the law's do. Generic or as said. -/
namespace Go.Proofs.YtfacflbmlfbeeaaGreatDoor
open Go.RowKit Go.Sort Go.Maps

/-- Blocks of cells that belong to no queue and to no model are kept. -/
def nQM (t : TypeId) : Bool := t == 98 || t == 57 || t == 93 || t == 91
def KD (w w' : World) : Prop := w.heap.size ≤ w'.heap.size ∧ ∀ (k : Nat) (c : Array Value) (t : TypeId) (f : Nat × Nat), w.heap[k]? = some (.cells c t f) → nQM t = false → w'.heap[k]? = some (.cells c t f)
section
variable {w w1 w2 w' : World} {b mb eb B : Nat} {q : Qu}
theorem KD.refl (w : World) : KD w w := ⟨Nat.le_refl _, fun _ _ _ _ h _ => h⟩
theorem KD.trans (h : KD w w1) (k : KD w1 w2) : KD w w2 := ⟨Nat.le_trans h.1 k.1, fun i c t f hc ht => k.2 i c t f (h.2 i c t f hc ht) ht⟩
theorem KD.k0 (h : K0 w w') : KD w w' := ⟨h.size, fun _ _ _ _ hc _ => h.blk hc (fun h => h)⟩
theorem KD.mf (hk : Kp (MF w B) w w') : KD w w' := ⟨hk.size, fun _ _ _ _ hc ht => hk.blk hc (mf_no hc (by
  unfold nQM at ht
  simp only [Bool.or_eq_false_iff] at ht ⊢
  exact ⟨⟨ht.1.1.2, ht.1.2⟩, ht.2⟩))⟩
theorem KD.kept (h : KD w w') {ns : List Nat} (hn : ∀ z ∈ ns, ∃ c t f, w.heap[z]? = some (.cells c t f) ∧ nQM t = false) : KeptL ns w w' := ⟨h.1, fun z hz _ => by
  obtain ⟨c, t, f, hc, ht⟩ := hn z hz
  rw [hc, h.2 z c t f hc ht]⟩
theorem KD.own (h : KD w w') {base L n c : Nat} {p : Option Addr} {e : TypeId} {xs : List Value} (ho : w.ownsRow base e L (.slice p n c) n xs) (he : nQM e = false) : w'.ownsRow base e L (.slice p n c) n xs := by
  refine ⟨ho.1, ?_⟩
  rcases ho.2 with h1 | ⟨g, cap, cur, hv, hb, hg, h4⟩
  · exact .inl h1
  · exact .inr ⟨g, cap, cur, hv, hb, h.2 g _ _ _ hg he, h4⟩
end
theorem putN {w w1 : World} {n N : Nat} {c : Array Value} {t : TypeId} {l : List Value} (h : w.heap[n]? = some (.cells c t (0, 0))) (hc : c.size = N) (hl : l.length = N) (hp : PutB w n 0 l w1) : w1.heap[n]? = some (.cells l.toArray t (0, 0)) := by
  have h1 := hp.block h
  rw [h1]
  have e : putL c.toList 0 l = l := by
    apply List.ext_getElem?
    intro t
    rcases Nat.lt_or_ge t N with ht | ht
    · rw [putL_get _ _ _ _ (by simp [hc, hl]), if_pos (by omega), Nat.sub_zero]
    · rw [List.getElem?_eq_none (by rw [putL_len]; simp [hc]; omega), List.getElem?_eq_none (by omega)]
  rw [e]
theorem dofin {W1 cur : World} {n n1 n2 : Nat} {zX zY : Array Value} {f f' : Nat → Int} {J : World → Prop} (k : K0 W1 cur) (g1 : W1.heap.size ≤ n1) (g2 : W1.heap.size ≤ n2)
    (cX : cur.heap[n1]? = some (.cells zX 32 (0, 0))) (hX : zX.size = 32) (cY : cur.heap[n2]? = some (.cells zY 45 (0, 0))) (hY : zY.size = 16)
    (hJ : ∀ w2, K0 W1 w2 → w2.heap[n1]? = some (.cells (arrI .u8 f 32 0).toArray 32 (0, 0)) → w2.heap[n2]? = some (.cells (arrI .u8 f' 16 0).toArray 45 (0, 0)) → J w2) :
    WrL cur n1 0 32 ∧ ∀ w1, PutB cur n1 0 (arrI .u8 f 32 0) w1 → WrL w1 n2 0 16 ∧ ∀ w2, PutB w1 n2 0 (arrI .u8 f' 16 0) w2 → KeptL [n] W1 w2 ∧ J w2 := by
  have hne : n2 ≠ n1 := fun e => by
    rw [e, cX] at cY
    have := (Obj.cells.inj (Option.some.inj cY)).2.1
    exact absurd this (by decide)
  refine ⟨WrL_block cX (by omega), fun w1 p1 => ?_⟩
  have dX := putN cX hX rfl p1
  have dY := p1.kp.blk cY (fun e => hne e)
  refine ⟨WrL_block dY (by omega), fun w2 p2 => ?_⟩
  have k1 : K0 W1 w1 := k.fresh p1.kp (fun j hj e => by have e : j = n1 := e; omega)
  have k2 : K0 W1 w2 := k1.fresh p2.kp (fun j hj e => by have e : j = n2 := e; omega)
  exact ⟨.of_k0 k2, hJ w2 k2 (p2.kp.blk dX (fun e => hne e.symm)) (putN dY hY rfl p2)⟩
end Go.Proofs.YtfacflbmlfbeeaaGreatDoor

/- The formulas of functions by the symbolic evaluator, and that each gives the call's contract. Written by a program (gen.py). No condition. -/
namespace Go.Proofs.YtfacflbmlfbeeaaGreatDoor
set_option maxRecDepth 100000
set_option linter.unusedVariables false

def VC_lmnil (k : Int) (i : Int) (g : Int) (a : Int) (now : Int) (t : ByteArray) (w : World) (R : Ending → World → Prop) : Prop :=
 ∀ (n : Nat) (W : World),
 Loc w.heap.size
 [Blk.mk n 66
 [Value.int IntKind.u8 k, Value.int IntKind.u8 i, Value.int IntKind.u8 g, Value.int IntKind.u8 a,
 Value.int IntKind.i64 now, Value.string t]
 2]
 w W →
 ∃ (J : List Value → World → Prop),
 (∀ (W_1 : World),
 Loc w.heap.size
 [Blk.mk n 66
 [Value.int IntKind.u8 k, Value.int IntKind.u8 i, Value.int IntKind.u8 g, Value.int IntKind.u8 a,
 Value.int IntKind.i64 now, Value.string t]
 0]
 W W_1 →
 ∃ (S : World → Prop),
 S W_1 ∧
 ∃ (x : Int),
 (∀ (w' : World), S w' → w'.cell? (Addr.mk n (0 + 1) none) = some (Value.int IntKind.u8 x)) ∧
 ∃ (x_1 : Int),
 (∀ (w' : World), S w' → w'.cell? (Addr.mk n (0 + 2) none) = some (Value.int IntKind.u8 x_1)) ∧
 ∃ (x_2 : Int),
 (∀ (w' : World), S w' → w'.cell? (Addr.mk n (0 + 3) none) = some (Value.int IntKind.u8 x_2)) ∧
 (CallsS Tryz.prog 29 #[Value.int IntKind.u8 x] W_1 fun (e : Ending) (w' : World) =>
 ∃ (f : Nat → Int),
 e =
 Ending.returned
 (Value.agg
 (arrI IntKind.u8 f 32 0).toArray) ∧
 S w' ∧
 (CallsS Tryz.prog 30 #[Value.int IntKind.u8 x_1] w' fun (e : Ending) (w' : World) =>
 ∃ (x : ByteArray),
 e = Ending.returned (Value.string x) ∧
 S w' ∧
 (CallsS Tryz.prog 20 #[Value.int IntKind.u8 x_2] w' fun (e : Ending) (w' : World) =>
 ∃ (f_1 : Nat → Int),
 e =
 Ending.returned
 (Value.agg
 (arrI IntKind.u8 f_1 16 0).toArray) ∧
 (∀ (n_1 : Nat) (w1 : World),
 NewB w'
 (Obj.cells
 #[Value.int IntKind.u8 0, Value.int IntKind.u8 0, Value.int IntKind.u8 0,
 Value.int IntKind.u8 0, Value.int IntKind.u8 0, Value.int IntKind.u8 0,
 Value.int IntKind.u8 0, Value.int IntKind.u8 0, Value.int IntKind.u8 0,
 Value.int IntKind.u8 0, Value.int IntKind.u8 0, Value.int IntKind.u8 0,
 Value.int IntKind.u8 0, Value.int IntKind.u8 0, Value.int IntKind.u8 0,
 Value.int IntKind.u8 0, Value.int IntKind.u8 0, Value.int IntKind.u8 0,
 Value.int IntKind.u8 0, Value.int IntKind.u8 0, Value.int IntKind.u8 0,
 Value.int IntKind.u8 0, Value.int IntKind.u8 0, Value.int IntKind.u8 0,
 Value.int IntKind.u8 0, Value.int IntKind.u8 0, Value.int IntKind.u8 0,
 Value.int IntKind.u8 0, Value.int IntKind.u8 0, Value.int IntKind.u8 0,
 Value.int IntKind.u8 0, Value.int IntKind.u8 0]
 32)
 n_1 w1 →
 S w1 ∧
 ∀ (n_2 : Nat) (w1_1 : World),
 NewB w1
 (Obj.cells
 #[Value.int IntKind.u8 0, Value.int IntKind.u8 0, Value.int IntKind.u8 0,
 Value.int IntKind.u8 0, Value.int IntKind.u8 0, Value.int IntKind.u8 0,
 Value.int IntKind.u8 0, Value.int IntKind.u8 0, Value.int IntKind.u8 0,
 Value.int IntKind.u8 0, Value.int IntKind.u8 0, Value.int IntKind.u8 0,
 Value.int IntKind.u8 0, Value.int IntKind.u8 0, Value.int IntKind.u8 0,
 Value.int IntKind.u8 0]
 45)
 n_2 w1_1 →
 S w1_1 ∧
 WrL w1_1 n_1 0 32 ∧
 ∀ (w1 : World),
 PutB w1_1 n_1 0
 (arrI IntKind.u8 f 32 0)
 w1 →
 WrL w1 n_2 0 16 ∧
 ∀ (w1_2 : World),
 PutB w1 n_2 0
 (arrI IntKind.u8 f_1 16 0)
 w1_2 →
 KeptL [n] W_1 w1_2 ∧
 J
 [Value.string x, Value.pointer (some (Addr.mk n_1 0 none)),
 Value.pointer (some (Addr.mk n_2 0 none))]
 w1_2) ∧
 ∀ (n_1 : Nat) (w1 : World),
 NewB w'
 (Obj.cells
 #[Value.int IntKind.u8 0, Value.int IntKind.u8 0, Value.int IntKind.u8 0,
 Value.int IntKind.u8 0, Value.int IntKind.u8 0, Value.int IntKind.u8 0,
 Value.int IntKind.u8 0, Value.int IntKind.u8 0, Value.int IntKind.u8 0,
 Value.int IntKind.u8 0, Value.int IntKind.u8 0, Value.int IntKind.u8 0,
 Value.int IntKind.u8 0, Value.int IntKind.u8 0, Value.int IntKind.u8 0,
 Value.int IntKind.u8 0]
 45)
 n_1 w1 →
 S w1 ∧
 ∀ (n_2 : Nat) (w1_1 : World),
 NewB w1
 (Obj.cells
 #[Value.int IntKind.u8 0, Value.int IntKind.u8 0, Value.int IntKind.u8 0,
 Value.int IntKind.u8 0, Value.int IntKind.u8 0, Value.int IntKind.u8 0,
 Value.int IntKind.u8 0, Value.int IntKind.u8 0, Value.int IntKind.u8 0,
 Value.int IntKind.u8 0, Value.int IntKind.u8 0, Value.int IntKind.u8 0,
 Value.int IntKind.u8 0, Value.int IntKind.u8 0, Value.int IntKind.u8 0,
 Value.int IntKind.u8 0, Value.int IntKind.u8 0, Value.int IntKind.u8 0,
 Value.int IntKind.u8 0, Value.int IntKind.u8 0, Value.int IntKind.u8 0,
 Value.int IntKind.u8 0, Value.int IntKind.u8 0, Value.int IntKind.u8 0,
 Value.int IntKind.u8 0, Value.int IntKind.u8 0, Value.int IntKind.u8 0,
 Value.int IntKind.u8 0, Value.int IntKind.u8 0, Value.int IntKind.u8 0,
 Value.int IntKind.u8 0, Value.int IntKind.u8 0]
 32)
 n_2 w1_1 →
 S w1_1 ∧
 WrL w1_1 n_2 0 32 ∧
 ∀ (w1 : World),
 PutB w1_1 n_2 0
 (arrI IntKind.u8 f 32 0)
 w1 →
 WrL w1 n_1 0 16 ∧
 ∀ (w1_2 : World),
 PutB w1 n_1 0
 (arrI IntKind.u8 f_1 16 0)
 w1_2 →
 KeptL [n] W_1 w1_2 ∧
 J
 [Value.string x, Value.pointer (some (Addr.mk n_2 0 none)),
 Value.pointer (some (Addr.mk n_1 0 none))]
 w1_2) ∧
 (∀ (n_1 : Nat) (w1 : World),
 NewB w'
 (Obj.cells
 #[Value.int IntKind.u8 0, Value.int IntKind.u8 0, Value.int IntKind.u8 0,
 Value.int IntKind.u8 0, Value.int IntKind.u8 0, Value.int IntKind.u8 0,
 Value.int IntKind.u8 0, Value.int IntKind.u8 0, Value.int IntKind.u8 0,
 Value.int IntKind.u8 0, Value.int IntKind.u8 0, Value.int IntKind.u8 0,
 Value.int IntKind.u8 0, Value.int IntKind.u8 0, Value.int IntKind.u8 0,
 Value.int IntKind.u8 0, Value.int IntKind.u8 0, Value.int IntKind.u8 0,
 Value.int IntKind.u8 0, Value.int IntKind.u8 0, Value.int IntKind.u8 0,
 Value.int IntKind.u8 0, Value.int IntKind.u8 0, Value.int IntKind.u8 0,
 Value.int IntKind.u8 0, Value.int IntKind.u8 0, Value.int IntKind.u8 0,
 Value.int IntKind.u8 0, Value.int IntKind.u8 0, Value.int IntKind.u8 0,
 Value.int IntKind.u8 0, Value.int IntKind.u8 0]
 32)
 n_1 w1 →
 S w1 ∧
 (CallsS Tryz.prog 20 #[Value.int IntKind.u8 x_2] w1 fun (e : Ending) (w' : World) =>
 ∃ (f_1 : Nat → Int),
 e =
 Ending.returned
 (Value.agg
 (arrI IntKind.u8 f_1 16 0).toArray) ∧
 ∀ (n_2 : Nat) (w1 : World),
 NewB w'
 (Obj.cells
 #[Value.int IntKind.u8 0, Value.int IntKind.u8 0, Value.int IntKind.u8 0,
 Value.int IntKind.u8 0, Value.int IntKind.u8 0, Value.int IntKind.u8 0,
 Value.int IntKind.u8 0, Value.int IntKind.u8 0, Value.int IntKind.u8 0,
 Value.int IntKind.u8 0, Value.int IntKind.u8 0, Value.int IntKind.u8 0,
 Value.int IntKind.u8 0, Value.int IntKind.u8 0, Value.int IntKind.u8 0,
 Value.int IntKind.u8 0]
 45)
 n_2 w1 →
 S w1 ∧
 WrL w1 n_1 0 32 ∧
 ∀ (w1_1 : World),
 PutB w1 n_1 0
 (arrI IntKind.u8 f 32 0)
 w1_1 →
 WrL w1_1 n_2 0 16 ∧
 ∀ (w1 : World),
 PutB w1_1 n_2 0
 (arrI IntKind.u8 f_1 16 0)
 w1 →
 KeptL [n] W_1 w1 ∧
 J
 [Value.string x, Value.pointer (some (Addr.mk n_1 0 none)),
 Value.pointer (some (Addr.mk n_2 0 none))]
 w1) ∧
 ∀ (n_2 : Nat) (w1_1 : World),
 NewB w1
 (Obj.cells
 #[Value.int IntKind.u8 0, Value.int IntKind.u8 0, Value.int IntKind.u8 0,
 Value.int IntKind.u8 0, Value.int IntKind.u8 0, Value.int IntKind.u8 0,
 Value.int IntKind.u8 0, Value.int IntKind.u8 0, Value.int IntKind.u8 0,
 Value.int IntKind.u8 0, Value.int IntKind.u8 0, Value.int IntKind.u8 0,
 Value.int IntKind.u8 0, Value.int IntKind.u8 0, Value.int IntKind.u8 0,
 Value.int IntKind.u8 0]
 45)
 n_2 w1_1 →
 S w1_1 ∧
 CallsS Tryz.prog 20 #[Value.int IntKind.u8 x_2] w1_1 fun (e : Ending) (w' : World) =>
 ∃ (f_1 : Nat → Int),
 e =
 Ending.returned
 (Value.agg
 (arrI IntKind.u8 f_1 16 0).toArray) ∧
 WrL w' n_1 0 32 ∧
 ∀ (w1 : World),
 PutB w' n_1 0
 (arrI IntKind.u8 f 32 0)
 w1 →
 WrL w1 n_2 0 16 ∧
 ∀ (w1_2 : World),
 PutB w1 n_2 0
 (arrI IntKind.u8 f_1 16 0)
 w1_2 →
 KeptL [n] W_1 w1_2 ∧
 J
 [Value.string x, Value.pointer (some (Addr.mk n_1 0 none)),
 Value.pointer (some (Addr.mk n_2 0 none))]
 w1_2) ∧
 ∀ (n_1 : Nat) (w1 : World),
 NewB w'
 (Obj.cells
 #[Value.int IntKind.u8 0, Value.int IntKind.u8 0, Value.int IntKind.u8 0,
 Value.int IntKind.u8 0, Value.int IntKind.u8 0, Value.int IntKind.u8 0,
 Value.int IntKind.u8 0, Value.int IntKind.u8 0, Value.int IntKind.u8 0,
 Value.int IntKind.u8 0, Value.int IntKind.u8 0, Value.int IntKind.u8 0,
 Value.int IntKind.u8 0, Value.int IntKind.u8 0, Value.int IntKind.u8 0,
 Value.int IntKind.u8 0]
 45)
 n_1 w1 →
 S w1 ∧
 (CallsS Tryz.prog 20 #[Value.int IntKind.u8 x_2] w1 fun (e : Ending) (w' : World) =>
 ∃ (f_1 : Nat → Int),
 e =
 Ending.returned
 (Value.agg
 (arrI IntKind.u8 f_1 16 0).toArray) ∧
 ∀ (n_2 : Nat) (w1 : World),
 NewB w'
 (Obj.cells
 #[Value.int IntKind.u8 0, Value.int IntKind.u8 0, Value.int IntKind.u8 0,
 Value.int IntKind.u8 0, Value.int IntKind.u8 0, Value.int IntKind.u8 0,
 Value.int IntKind.u8 0, Value.int IntKind.u8 0, Value.int IntKind.u8 0,
 Value.int IntKind.u8 0, Value.int IntKind.u8 0, Value.int IntKind.u8 0,
 Value.int IntKind.u8 0, Value.int IntKind.u8 0, Value.int IntKind.u8 0,
 Value.int IntKind.u8 0, Value.int IntKind.u8 0, Value.int IntKind.u8 0,
 Value.int IntKind.u8 0, Value.int IntKind.u8 0, Value.int IntKind.u8 0,
 Value.int IntKind.u8 0, Value.int IntKind.u8 0, Value.int IntKind.u8 0,
 Value.int IntKind.u8 0, Value.int IntKind.u8 0, Value.int IntKind.u8 0,
 Value.int IntKind.u8 0, Value.int IntKind.u8 0, Value.int IntKind.u8 0,
 Value.int IntKind.u8 0, Value.int IntKind.u8 0]
 32)
 n_2 w1 →
 S w1 ∧
 WrL w1 n_2 0 32 ∧
 ∀ (w1_1 : World),
 PutB w1 n_2 0
 (arrI IntKind.u8 f 32 0)
 w1_1 →
 WrL w1_1 n_1 0 16 ∧
 ∀ (w1 : World),
 PutB w1_1 n_1 0
 (arrI IntKind.u8 f_1 16 0)
 w1 →
 KeptL [n] W_1 w1 ∧
 J
 [Value.string x, Value.pointer (some (Addr.mk n_2 0 none)),
 Value.pointer (some (Addr.mk n_1 0 none))]
 w1) ∧
 ∀ (n_2 : Nat) (w1_1 : World),
 NewB w1
 (Obj.cells
 #[Value.int IntKind.u8 0, Value.int IntKind.u8 0, Value.int IntKind.u8 0,
 Value.int IntKind.u8 0, Value.int IntKind.u8 0, Value.int IntKind.u8 0,
 Value.int IntKind.u8 0, Value.int IntKind.u8 0, Value.int IntKind.u8 0,
 Value.int IntKind.u8 0, Value.int IntKind.u8 0, Value.int IntKind.u8 0,
 Value.int IntKind.u8 0, Value.int IntKind.u8 0, Value.int IntKind.u8 0,
 Value.int IntKind.u8 0, Value.int IntKind.u8 0, Value.int IntKind.u8 0,
 Value.int IntKind.u8 0, Value.int IntKind.u8 0, Value.int IntKind.u8 0,
 Value.int IntKind.u8 0, Value.int IntKind.u8 0, Value.int IntKind.u8 0,
 Value.int IntKind.u8 0, Value.int IntKind.u8 0, Value.int IntKind.u8 0,
 Value.int IntKind.u8 0, Value.int IntKind.u8 0, Value.int IntKind.u8 0,
 Value.int IntKind.u8 0, Value.int IntKind.u8 0]
 32)
 n_2 w1_1 →
 S w1_1 ∧
 CallsS Tryz.prog 20 #[Value.int IntKind.u8 x_2] w1_1 fun (e : Ending) (w' : World) =>
 ∃ (f_1 : Nat → Int),
 e =
 Ending.returned
 (Value.agg
 (arrI IntKind.u8 f_1 16 0).toArray) ∧
 WrL w' n_2 0 32 ∧
 ∀ (w1 : World),
 PutB w' n_2 0
 (arrI IntKind.u8 f 32 0)
 w1 →
 WrL w1 n_1 0 16 ∧
 ∀ (w1_2 : World),
 PutB w1 n_1 0
 (arrI IntKind.u8 f_1 16 0)
 w1_2 →
 KeptL [n] W_1 w1_2 ∧
 J
 [Value.string x, Value.pointer (some (Addr.mk n_2 0 none)),
 Value.pointer (some (Addr.mk n_1 0 none))]
 w1_2) ∧
 (∀ (n_1 : Nat) (w1 : World),
 NewB w'
 (Obj.cells
 #[Value.int IntKind.u8 0, Value.int IntKind.u8 0, Value.int IntKind.u8 0,
 Value.int IntKind.u8 0, Value.int IntKind.u8 0, Value.int IntKind.u8 0,
 Value.int IntKind.u8 0, Value.int IntKind.u8 0, Value.int IntKind.u8 0,
 Value.int IntKind.u8 0, Value.int IntKind.u8 0, Value.int IntKind.u8 0,
 Value.int IntKind.u8 0, Value.int IntKind.u8 0, Value.int IntKind.u8 0,
 Value.int IntKind.u8 0, Value.int IntKind.u8 0, Value.int IntKind.u8 0,
 Value.int IntKind.u8 0, Value.int IntKind.u8 0, Value.int IntKind.u8 0,
 Value.int IntKind.u8 0, Value.int IntKind.u8 0, Value.int IntKind.u8 0,
 Value.int IntKind.u8 0, Value.int IntKind.u8 0, Value.int IntKind.u8 0,
 Value.int IntKind.u8 0, Value.int IntKind.u8 0, Value.int IntKind.u8 0,
 Value.int IntKind.u8 0, Value.int IntKind.u8 0]
 32)
 n_1 w1 →
 S w1 ∧
 (CallsS Tryz.prog 30 #[Value.int IntKind.u8 x_1] w1 fun (e : Ending) (w' : World) =>
 ∃ (x : ByteArray),
 e = Ending.returned (Value.string x) ∧
 S w' ∧
 (CallsS Tryz.prog 20 #[Value.int IntKind.u8 x_2] w' fun (e : Ending) (w' : World) =>
 ∃ (f_1 : Nat → Int),
 e =
 Ending.returned
 (Value.agg
 (arrI IntKind.u8 f_1 16 0).toArray) ∧
 ∀ (n_2 : Nat) (w1 : World),
 NewB w'
 (Obj.cells
 #[Value.int IntKind.u8 0, Value.int IntKind.u8 0, Value.int IntKind.u8 0,
 Value.int IntKind.u8 0, Value.int IntKind.u8 0, Value.int IntKind.u8 0,
 Value.int IntKind.u8 0, Value.int IntKind.u8 0, Value.int IntKind.u8 0,
 Value.int IntKind.u8 0, Value.int IntKind.u8 0, Value.int IntKind.u8 0,
 Value.int IntKind.u8 0, Value.int IntKind.u8 0, Value.int IntKind.u8 0,
 Value.int IntKind.u8 0]
 45)
 n_2 w1 →
 S w1 ∧
 WrL w1 n_1 0 32 ∧
 ∀ (w1_1 : World),
 PutB w1 n_1 0
 (arrI IntKind.u8 f 32 0)
 w1_1 →
 WrL w1_1 n_2 0 16 ∧
 ∀ (w1 : World),
 PutB w1_1 n_2 0
 (arrI IntKind.u8 f_1 16 0)
 w1 →
 KeptL [n] W_1 w1 ∧
 J
 [Value.string x, Value.pointer (some (Addr.mk n_1 0 none)),
 Value.pointer (some (Addr.mk n_2 0 none))]
 w1) ∧
 ∀ (n_2 : Nat) (w1 : World),
 NewB w'
 (Obj.cells
 #[Value.int IntKind.u8 0, Value.int IntKind.u8 0, Value.int IntKind.u8 0,
 Value.int IntKind.u8 0, Value.int IntKind.u8 0, Value.int IntKind.u8 0,
 Value.int IntKind.u8 0, Value.int IntKind.u8 0, Value.int IntKind.u8 0,
 Value.int IntKind.u8 0, Value.int IntKind.u8 0, Value.int IntKind.u8 0,
 Value.int IntKind.u8 0, Value.int IntKind.u8 0, Value.int IntKind.u8 0,
 Value.int IntKind.u8 0]
 45)
 n_2 w1 →
 S w1 ∧
 CallsS Tryz.prog 20 #[Value.int IntKind.u8 x_2] w1 fun (e : Ending) (w' : World) =>
 ∃ (f_1 : Nat → Int),
 e =
 Ending.returned
 (Value.agg
 (arrI IntKind.u8 f_1 16 0).toArray) ∧
 WrL w' n_1 0 32 ∧
 ∀ (w1 : World),
 PutB w' n_1 0
 (arrI IntKind.u8 f 32 0)
 w1 →
 WrL w1 n_2 0 16 ∧
 ∀ (w1_1 : World),
 PutB w1 n_2 0
 (arrI IntKind.u8 f_1 16 0)
 w1_1 →
 KeptL [n] W_1 w1_1 ∧
 J
 [Value.string x, Value.pointer (some (Addr.mk n_1 0 none)),
 Value.pointer (some (Addr.mk n_2 0 none))]
 w1_1) ∧
 ∀ (n_2 : Nat) (w1_1 : World),
 NewB w1
 (Obj.cells
 #[Value.int IntKind.u8 0, Value.int IntKind.u8 0, Value.int IntKind.u8 0,
 Value.int IntKind.u8 0, Value.int IntKind.u8 0, Value.int IntKind.u8 0,
 Value.int IntKind.u8 0, Value.int IntKind.u8 0, Value.int IntKind.u8 0,
 Value.int IntKind.u8 0, Value.int IntKind.u8 0, Value.int IntKind.u8 0,
 Value.int IntKind.u8 0, Value.int IntKind.u8 0, Value.int IntKind.u8 0,
 Value.int IntKind.u8 0]
 45)
 n_2 w1_1 →
 S w1_1 ∧
 CallsS Tryz.prog 30 #[Value.int IntKind.u8 x_1] w1_1 fun (e : Ending) (w' : World) =>
 ∃ (x : ByteArray),
 e = Ending.returned (Value.string x) ∧
 S w' ∧
 CallsS Tryz.prog 20 #[Value.int IntKind.u8 x_2] w' fun (e : Ending) (w' : World) =>
 ∃ (f_1 : Nat → Int),
 e =
 Ending.returned
 (Value.agg
 (arrI IntKind.u8 f_1 16 0).toArray) ∧
 WrL w' n_1 0 32 ∧
 ∀ (w1 : World),
 PutB w' n_1 0
 (arrI IntKind.u8 f 32 0)
 w1 →
 WrL w1 n_2 0 16 ∧
 ∀ (w1_2 : World),
 PutB w1 n_2 0
 (arrI IntKind.u8 f_1 16 0)
 w1_2 →
 KeptL [n] W_1 w1_2 ∧
 J
 [Value.string x, Value.pointer (some (Addr.mk n_1 0 none)),
 Value.pointer (some (Addr.mk n_2 0 none))]
 w1_2) ∧
 ∀ (n_1 : Nat) (w1 : World),
 NewB w'
 (Obj.cells
 #[Value.int IntKind.u8 0, Value.int IntKind.u8 0, Value.int IntKind.u8 0,
 Value.int IntKind.u8 0, Value.int IntKind.u8 0, Value.int IntKind.u8 0,
 Value.int IntKind.u8 0, Value.int IntKind.u8 0, Value.int IntKind.u8 0,
 Value.int IntKind.u8 0, Value.int IntKind.u8 0, Value.int IntKind.u8 0,
 Value.int IntKind.u8 0, Value.int IntKind.u8 0, Value.int IntKind.u8 0,
 Value.int IntKind.u8 0]
 45)
 n_1 w1 →
 S w1 ∧
 (CallsS Tryz.prog 30 #[Value.int IntKind.u8 x_1] w1 fun (e : Ending) (w' : World) =>
 ∃ (x : ByteArray),
 e = Ending.returned (Value.string x) ∧
 S w' ∧
 (CallsS Tryz.prog 20 #[Value.int IntKind.u8 x_2] w' fun (e : Ending) (w' : World) =>
 ∃ (f_1 : Nat → Int),
 e =
 Ending.returned
 (Value.agg
 (arrI IntKind.u8 f_1 16 0).toArray) ∧
 ∀ (n_2 : Nat) (w1 : World),
 NewB w'
 (Obj.cells
 #[Value.int IntKind.u8 0, Value.int IntKind.u8 0, Value.int IntKind.u8 0,
 Value.int IntKind.u8 0, Value.int IntKind.u8 0, Value.int IntKind.u8 0,
 Value.int IntKind.u8 0, Value.int IntKind.u8 0, Value.int IntKind.u8 0,
 Value.int IntKind.u8 0, Value.int IntKind.u8 0, Value.int IntKind.u8 0,
 Value.int IntKind.u8 0, Value.int IntKind.u8 0, Value.int IntKind.u8 0,
 Value.int IntKind.u8 0, Value.int IntKind.u8 0, Value.int IntKind.u8 0,
 Value.int IntKind.u8 0, Value.int IntKind.u8 0, Value.int IntKind.u8 0,
 Value.int IntKind.u8 0, Value.int IntKind.u8 0, Value.int IntKind.u8 0,
 Value.int IntKind.u8 0, Value.int IntKind.u8 0, Value.int IntKind.u8 0,
 Value.int IntKind.u8 0, Value.int IntKind.u8 0, Value.int IntKind.u8 0,
 Value.int IntKind.u8 0, Value.int IntKind.u8 0]
 32)
 n_2 w1 →
 S w1 ∧
 WrL w1 n_2 0 32 ∧
 ∀ (w1_1 : World),
 PutB w1 n_2 0
 (arrI IntKind.u8 f 32 0)
 w1_1 →
 WrL w1_1 n_1 0 16 ∧
 ∀ (w1 : World),
 PutB w1_1 n_1 0
 (arrI IntKind.u8 f_1 16 0)
 w1 →
 KeptL [n] W_1 w1 ∧
 J
 [Value.string x, Value.pointer (some (Addr.mk n_2 0 none)),
 Value.pointer (some (Addr.mk n_1 0 none))]
 w1) ∧
 ∀ (n_2 : Nat) (w1 : World),
 NewB w'
 (Obj.cells
 #[Value.int IntKind.u8 0, Value.int IntKind.u8 0, Value.int IntKind.u8 0,
 Value.int IntKind.u8 0, Value.int IntKind.u8 0, Value.int IntKind.u8 0,
 Value.int IntKind.u8 0, Value.int IntKind.u8 0, Value.int IntKind.u8 0,
 Value.int IntKind.u8 0, Value.int IntKind.u8 0, Value.int IntKind.u8 0,
 Value.int IntKind.u8 0, Value.int IntKind.u8 0, Value.int IntKind.u8 0,
 Value.int IntKind.u8 0, Value.int IntKind.u8 0, Value.int IntKind.u8 0,
 Value.int IntKind.u8 0, Value.int IntKind.u8 0, Value.int IntKind.u8 0,
 Value.int IntKind.u8 0, Value.int IntKind.u8 0, Value.int IntKind.u8 0,
 Value.int IntKind.u8 0, Value.int IntKind.u8 0, Value.int IntKind.u8 0,
 Value.int IntKind.u8 0, Value.int IntKind.u8 0, Value.int IntKind.u8 0,
 Value.int IntKind.u8 0, Value.int IntKind.u8 0]
 32)
 n_2 w1 →
 S w1 ∧
 CallsS Tryz.prog 20 #[Value.int IntKind.u8 x_2] w1 fun (e : Ending) (w' : World) =>
 ∃ (f_1 : Nat → Int),
 e =
 Ending.returned
 (Value.agg
 (arrI IntKind.u8 f_1 16 0).toArray) ∧
 WrL w' n_2 0 32 ∧
 ∀ (w1 : World),
 PutB w' n_2 0
 (arrI IntKind.u8 f 32 0)
 w1 →
 WrL w1 n_1 0 16 ∧
 ∀ (w1_1 : World),
 PutB w1 n_1 0
 (arrI IntKind.u8 f_1 16 0)
 w1_1 →
 KeptL [n] W_1 w1_1 ∧
 J
 [Value.string x, Value.pointer (some (Addr.mk n_2 0 none)),
 Value.pointer (some (Addr.mk n_1 0 none))]
 w1_1) ∧
 ∀ (n_2 : Nat) (w1_1 : World),
 NewB w1
 (Obj.cells
 #[Value.int IntKind.u8 0, Value.int IntKind.u8 0, Value.int IntKind.u8 0,
 Value.int IntKind.u8 0, Value.int IntKind.u8 0, Value.int IntKind.u8 0,
 Value.int IntKind.u8 0, Value.int IntKind.u8 0, Value.int IntKind.u8 0,
 Value.int IntKind.u8 0, Value.int IntKind.u8 0, Value.int IntKind.u8 0,
 Value.int IntKind.u8 0, Value.int IntKind.u8 0, Value.int IntKind.u8 0,
 Value.int IntKind.u8 0, Value.int IntKind.u8 0, Value.int IntKind.u8 0,
 Value.int IntKind.u8 0, Value.int IntKind.u8 0, Value.int IntKind.u8 0,
 Value.int IntKind.u8 0, Value.int IntKind.u8 0, Value.int IntKind.u8 0,
 Value.int IntKind.u8 0, Value.int IntKind.u8 0, Value.int IntKind.u8 0,
 Value.int IntKind.u8 0, Value.int IntKind.u8 0, Value.int IntKind.u8 0,
 Value.int IntKind.u8 0, Value.int IntKind.u8 0]
 32)
 n_2 w1_1 →
 S w1_1 ∧
 CallsS Tryz.prog 30 #[Value.int IntKind.u8 x_1] w1_1 fun (e : Ending) (w' : World) =>
 ∃ (x : ByteArray),
 e = Ending.returned (Value.string x) ∧
 S w' ∧
 CallsS Tryz.prog 20 #[Value.int IntKind.u8 x_2] w' fun (e : Ending) (w' : World) =>
 ∃ (f_1 : Nat → Int),
 e =
 Ending.returned
 (Value.agg
 (arrI IntKind.u8 f_1 16 0).toArray) ∧
 WrL w' n_2 0 32 ∧
 ∀ (w1 : World),
 PutB w' n_2 0
 (arrI IntKind.u8 f 32 0)
 w1 →
 WrL w1 n_1 0 16 ∧
 ∀ (w1_2 : World),
 PutB w1 n_1 0
 (arrI IntKind.u8 f_1 16 0)
 w1_2 →
 KeptL [n] W_1 w1_2 ∧
 J
 [Value.string x, Value.pointer (some (Addr.mk n_2 0 none)),
 Value.pointer (some (Addr.mk n_1 0 none))]
 w1_2) ∧
 (∀ (n_1 : Nat) (w1 : World),
 NewB W_1
 (Obj.cells
 #[Value.int IntKind.u8 0, Value.int IntKind.u8 0, Value.int IntKind.u8 0, Value.int IntKind.u8 0,
 Value.int IntKind.u8 0, Value.int IntKind.u8 0, Value.int IntKind.u8 0, Value.int IntKind.u8 0,
 Value.int IntKind.u8 0, Value.int IntKind.u8 0, Value.int IntKind.u8 0, Value.int IntKind.u8 0,
 Value.int IntKind.u8 0, Value.int IntKind.u8 0, Value.int IntKind.u8 0, Value.int IntKind.u8 0,
 Value.int IntKind.u8 0, Value.int IntKind.u8 0, Value.int IntKind.u8 0, Value.int IntKind.u8 0,
 Value.int IntKind.u8 0, Value.int IntKind.u8 0, Value.int IntKind.u8 0, Value.int IntKind.u8 0,
 Value.int IntKind.u8 0, Value.int IntKind.u8 0, Value.int IntKind.u8 0, Value.int IntKind.u8 0,
 Value.int IntKind.u8 0, Value.int IntKind.u8 0, Value.int IntKind.u8 0, Value.int IntKind.u8 0]
 32)
 n_1 w1 →
 S w1 ∧
 (CallsS Tryz.prog 29 #[Value.int IntKind.u8 x] w1 fun (e : Ending) (w' : World) =>
 ∃ (f : Nat → Int),
 e =
 Ending.returned
 (Value.agg
 (arrI IntKind.u8 f 32 0).toArray) ∧
 S w' ∧
 (CallsS Tryz.prog 30 #[Value.int IntKind.u8 x_1] w' fun (e : Ending) (w' : World) =>
 ∃ (x : ByteArray),
 e = Ending.returned (Value.string x) ∧
 S w' ∧
 (CallsS Tryz.prog 20 #[Value.int IntKind.u8 x_2] w' fun (e : Ending) (w' : World) =>
 ∃ (f_1 : Nat → Int),
 e =
 Ending.returned
 (Value.agg
 (arrI IntKind.u8 f_1 16 0).toArray) ∧
 ∀ (n_2 : Nat) (w1 : World),
 NewB w'
 (Obj.cells
 #[Value.int IntKind.u8 0, Value.int IntKind.u8 0, Value.int IntKind.u8 0,
 Value.int IntKind.u8 0, Value.int IntKind.u8 0, Value.int IntKind.u8 0,
 Value.int IntKind.u8 0, Value.int IntKind.u8 0, Value.int IntKind.u8 0,
 Value.int IntKind.u8 0, Value.int IntKind.u8 0, Value.int IntKind.u8 0,
 Value.int IntKind.u8 0, Value.int IntKind.u8 0, Value.int IntKind.u8 0,
 Value.int IntKind.u8 0]
 45)
 n_2 w1 →
 S w1 ∧
 WrL w1 n_1 0 32 ∧
 ∀ (w1_1 : World),
 PutB w1 n_1 0
 (arrI IntKind.u8 f 32 0)
 w1_1 →
 WrL w1_1 n_2 0 16 ∧
 ∀ (w1 : World),
 PutB w1_1 n_2 0
 (arrI IntKind.u8 f_1 16 0)
 w1 →
 KeptL [n] W_1 w1 ∧
 J
 [Value.string x, Value.pointer (some (Addr.mk n_1 0 none)),
 Value.pointer (some (Addr.mk n_2 0 none))]
 w1) ∧
 ∀ (n_2 : Nat) (w1 : World),
 NewB w'
 (Obj.cells
 #[Value.int IntKind.u8 0, Value.int IntKind.u8 0, Value.int IntKind.u8 0,
 Value.int IntKind.u8 0, Value.int IntKind.u8 0, Value.int IntKind.u8 0,
 Value.int IntKind.u8 0, Value.int IntKind.u8 0, Value.int IntKind.u8 0,
 Value.int IntKind.u8 0, Value.int IntKind.u8 0, Value.int IntKind.u8 0,
 Value.int IntKind.u8 0, Value.int IntKind.u8 0, Value.int IntKind.u8 0,
 Value.int IntKind.u8 0]
 45)
 n_2 w1 →
 S w1 ∧
 CallsS Tryz.prog 20 #[Value.int IntKind.u8 x_2] w1 fun (e : Ending) (w' : World) =>
 ∃ (f_1 : Nat → Int),
 e =
 Ending.returned
 (Value.agg
 (arrI IntKind.u8 f_1 16 0).toArray) ∧
 WrL w' n_1 0 32 ∧
 ∀ (w1 : World),
 PutB w' n_1 0
 (arrI IntKind.u8 f 32 0)
 w1 →
 WrL w1 n_2 0 16 ∧
 ∀ (w1_1 : World),
 PutB w1 n_2 0
 (arrI IntKind.u8 f_1 16 0)
 w1_1 →
 KeptL [n] W_1 w1_1 ∧
 J
 [Value.string x, Value.pointer (some (Addr.mk n_1 0 none)),
 Value.pointer (some (Addr.mk n_2 0 none))]
 w1_1) ∧
 ∀ (n_2 : Nat) (w1 : World),
 NewB w'
 (Obj.cells
 #[Value.int IntKind.u8 0, Value.int IntKind.u8 0, Value.int IntKind.u8 0,
 Value.int IntKind.u8 0, Value.int IntKind.u8 0, Value.int IntKind.u8 0,
 Value.int IntKind.u8 0, Value.int IntKind.u8 0, Value.int IntKind.u8 0,
 Value.int IntKind.u8 0, Value.int IntKind.u8 0, Value.int IntKind.u8 0,
 Value.int IntKind.u8 0, Value.int IntKind.u8 0, Value.int IntKind.u8 0,
 Value.int IntKind.u8 0]
 45)
 n_2 w1 →
 S w1 ∧
 CallsS Tryz.prog 30 #[Value.int IntKind.u8 x_1] w1 fun (e : Ending) (w' : World) =>
 ∃ (x : ByteArray),
 e = Ending.returned (Value.string x) ∧
 S w' ∧
 CallsS Tryz.prog 20 #[Value.int IntKind.u8 x_2] w' fun (e : Ending) (w' : World) =>
 ∃ (f_1 : Nat → Int),
 e =
 Ending.returned
 (Value.agg
 (arrI IntKind.u8 f_1 16 0).toArray) ∧
 WrL w' n_1 0 32 ∧
 ∀ (w1 : World),
 PutB w' n_1 0
 (arrI IntKind.u8 f 32 0)
 w1 →
 WrL w1 n_2 0 16 ∧
 ∀ (w1_1 : World),
 PutB w1 n_2 0
 (arrI IntKind.u8 f_1 16 0)
 w1_1 →
 KeptL [n] W_1 w1_1 ∧
 J
 [Value.string x, Value.pointer (some (Addr.mk n_1 0 none)),
 Value.pointer (some (Addr.mk n_2 0 none))]
 w1_1) ∧
 ∀ (n_2 : Nat) (w1_1 : World),
 NewB w1
 (Obj.cells
 #[Value.int IntKind.u8 0, Value.int IntKind.u8 0, Value.int IntKind.u8 0,
 Value.int IntKind.u8 0, Value.int IntKind.u8 0, Value.int IntKind.u8 0, Value.int IntKind.u8 0,
 Value.int IntKind.u8 0, Value.int IntKind.u8 0, Value.int IntKind.u8 0, Value.int IntKind.u8 0,
 Value.int IntKind.u8 0, Value.int IntKind.u8 0, Value.int IntKind.u8 0, Value.int IntKind.u8 0,
 Value.int IntKind.u8 0]
 45)
 n_2 w1_1 →
 S w1_1 ∧
 CallsS Tryz.prog 29 #[Value.int IntKind.u8 x] w1_1 fun (e : Ending) (w' : World) =>
 ∃ (f : Nat → Int),
 e =
 Ending.returned
 (Value.agg
 (arrI IntKind.u8 f 32 0).toArray) ∧
 S w' ∧
 CallsS Tryz.prog 30 #[Value.int IntKind.u8 x_1] w' fun (e : Ending) (w' : World) =>
 ∃ (x : ByteArray),
 e = Ending.returned (Value.string x) ∧
 S w' ∧
 CallsS Tryz.prog 20 #[Value.int IntKind.u8 x_2] w' fun (e : Ending) (w' : World) =>
 ∃ (f_1 : Nat → Int),
 e =
 Ending.returned
 (Value.agg
 (arrI IntKind.u8 f_1 16 0).toArray) ∧
 WrL w' n_1 0 32 ∧
 ∀ (w1 : World),
 PutB w' n_1 0
 (arrI IntKind.u8 f 32 0)
 w1 →
 WrL w1 n_2 0 16 ∧
 ∀ (w1_2 : World),
 PutB w1 n_2 0
 (arrI IntKind.u8 f_1 16 0)
 w1_2 →
 KeptL [n] W_1 w1_2 ∧
 J
 [Value.string x, Value.pointer (some (Addr.mk n_1 0 none)),
 Value.pointer (some (Addr.mk n_2 0 none))]
 w1_2) ∧
 ∀ (n_1 : Nat) (w1 : World),
 NewB W_1
 (Obj.cells
 #[Value.int IntKind.u8 0, Value.int IntKind.u8 0, Value.int IntKind.u8 0, Value.int IntKind.u8 0,
 Value.int IntKind.u8 0, Value.int IntKind.u8 0, Value.int IntKind.u8 0, Value.int IntKind.u8 0,
 Value.int IntKind.u8 0, Value.int IntKind.u8 0, Value.int IntKind.u8 0, Value.int IntKind.u8 0,
 Value.int IntKind.u8 0, Value.int IntKind.u8 0, Value.int IntKind.u8 0, Value.int IntKind.u8 0]
 45)
 n_1 w1 →
 S w1 ∧
 (CallsS Tryz.prog 29 #[Value.int IntKind.u8 x] w1 fun (e : Ending) (w' : World) =>
 ∃ (f : Nat → Int),
 e =
 Ending.returned
 (Value.agg
 (arrI IntKind.u8 f 32 0).toArray) ∧
 S w' ∧
 (CallsS Tryz.prog 30 #[Value.int IntKind.u8 x_1] w' fun (e : Ending) (w' : World) =>
 ∃ (x : ByteArray),
 e = Ending.returned (Value.string x) ∧
 S w' ∧
 (CallsS Tryz.prog 20 #[Value.int IntKind.u8 x_2] w' fun (e : Ending) (w' : World) =>
 ∃ (f_1 : Nat → Int),
 e =
 Ending.returned
 (Value.agg
 (arrI IntKind.u8 f_1 16 0).toArray) ∧
 ∀ (n_2 : Nat) (w1 : World),
 NewB w'
 (Obj.cells
 #[Value.int IntKind.u8 0, Value.int IntKind.u8 0, Value.int IntKind.u8 0,
 Value.int IntKind.u8 0, Value.int IntKind.u8 0, Value.int IntKind.u8 0,
 Value.int IntKind.u8 0, Value.int IntKind.u8 0, Value.int IntKind.u8 0,
 Value.int IntKind.u8 0, Value.int IntKind.u8 0, Value.int IntKind.u8 0,
 Value.int IntKind.u8 0, Value.int IntKind.u8 0, Value.int IntKind.u8 0,
 Value.int IntKind.u8 0, Value.int IntKind.u8 0, Value.int IntKind.u8 0,
 Value.int IntKind.u8 0, Value.int IntKind.u8 0, Value.int IntKind.u8 0,
 Value.int IntKind.u8 0, Value.int IntKind.u8 0, Value.int IntKind.u8 0,
 Value.int IntKind.u8 0, Value.int IntKind.u8 0, Value.int IntKind.u8 0,
 Value.int IntKind.u8 0, Value.int IntKind.u8 0, Value.int IntKind.u8 0,
 Value.int IntKind.u8 0, Value.int IntKind.u8 0]
 32)
 n_2 w1 →
 S w1 ∧
 WrL w1 n_2 0 32 ∧
 ∀ (w1_1 : World),
 PutB w1 n_2 0
 (arrI IntKind.u8 f 32 0)
 w1_1 →
 WrL w1_1 n_1 0 16 ∧
 ∀ (w1 : World),
 PutB w1_1 n_1 0
 (arrI IntKind.u8 f_1 16 0)
 w1 →
 KeptL [n] W_1 w1 ∧
 J
 [Value.string x, Value.pointer (some (Addr.mk n_2 0 none)),
 Value.pointer (some (Addr.mk n_1 0 none))]
 w1) ∧
 ∀ (n_2 : Nat) (w1 : World),
 NewB w'
 (Obj.cells
 #[Value.int IntKind.u8 0, Value.int IntKind.u8 0, Value.int IntKind.u8 0,
 Value.int IntKind.u8 0, Value.int IntKind.u8 0, Value.int IntKind.u8 0,
 Value.int IntKind.u8 0, Value.int IntKind.u8 0, Value.int IntKind.u8 0,
 Value.int IntKind.u8 0, Value.int IntKind.u8 0, Value.int IntKind.u8 0,
 Value.int IntKind.u8 0, Value.int IntKind.u8 0, Value.int IntKind.u8 0,
 Value.int IntKind.u8 0, Value.int IntKind.u8 0, Value.int IntKind.u8 0,
 Value.int IntKind.u8 0, Value.int IntKind.u8 0, Value.int IntKind.u8 0,
 Value.int IntKind.u8 0, Value.int IntKind.u8 0, Value.int IntKind.u8 0,
 Value.int IntKind.u8 0, Value.int IntKind.u8 0, Value.int IntKind.u8 0,
 Value.int IntKind.u8 0, Value.int IntKind.u8 0, Value.int IntKind.u8 0,
 Value.int IntKind.u8 0, Value.int IntKind.u8 0]
 32)
 n_2 w1 →
 S w1 ∧
 CallsS Tryz.prog 20 #[Value.int IntKind.u8 x_2] w1 fun (e : Ending) (w' : World) =>
 ∃ (f_1 : Nat → Int),
 e =
 Ending.returned
 (Value.agg
 (arrI IntKind.u8 f_1 16 0).toArray) ∧
 WrL w' n_2 0 32 ∧
 ∀ (w1 : World),
 PutB w' n_2 0
 (arrI IntKind.u8 f 32 0)
 w1 →
 WrL w1 n_1 0 16 ∧
 ∀ (w1_1 : World),
 PutB w1 n_1 0
 (arrI IntKind.u8 f_1 16 0)
 w1_1 →
 KeptL [n] W_1 w1_1 ∧
 J
 [Value.string x, Value.pointer (some (Addr.mk n_2 0 none)),
 Value.pointer (some (Addr.mk n_1 0 none))]
 w1_1) ∧
 ∀ (n_2 : Nat) (w1 : World),
 NewB w'
 (Obj.cells
 #[Value.int IntKind.u8 0, Value.int IntKind.u8 0, Value.int IntKind.u8 0,
 Value.int IntKind.u8 0, Value.int IntKind.u8 0, Value.int IntKind.u8 0,
 Value.int IntKind.u8 0, Value.int IntKind.u8 0, Value.int IntKind.u8 0,
 Value.int IntKind.u8 0, Value.int IntKind.u8 0, Value.int IntKind.u8 0,
 Value.int IntKind.u8 0, Value.int IntKind.u8 0, Value.int IntKind.u8 0,
 Value.int IntKind.u8 0, Value.int IntKind.u8 0, Value.int IntKind.u8 0,
 Value.int IntKind.u8 0, Value.int IntKind.u8 0, Value.int IntKind.u8 0,
 Value.int IntKind.u8 0, Value.int IntKind.u8 0, Value.int IntKind.u8 0,
 Value.int IntKind.u8 0, Value.int IntKind.u8 0, Value.int IntKind.u8 0,
 Value.int IntKind.u8 0, Value.int IntKind.u8 0, Value.int IntKind.u8 0,
 Value.int IntKind.u8 0, Value.int IntKind.u8 0]
 32)
 n_2 w1 →
 S w1 ∧
 CallsS Tryz.prog 30 #[Value.int IntKind.u8 x_1] w1 fun (e : Ending) (w' : World) =>
 ∃ (x : ByteArray),
 e = Ending.returned (Value.string x) ∧
 S w' ∧
 CallsS Tryz.prog 20 #[Value.int IntKind.u8 x_2] w' fun (e : Ending) (w' : World) =>
 ∃ (f_1 : Nat → Int),
 e =
 Ending.returned
 (Value.agg
 (arrI IntKind.u8 f_1 16 0).toArray) ∧
 WrL w' n_2 0 32 ∧
 ∀ (w1 : World),
 PutB w' n_2 0
 (arrI IntKind.u8 f 32 0)
 w1 →
 WrL w1 n_1 0 16 ∧
 ∀ (w1_1 : World),
 PutB w1 n_1 0
 (arrI IntKind.u8 f_1 16 0)
 w1_1 →
 KeptL [n] W_1 w1_1 ∧
 J
 [Value.string x, Value.pointer (some (Addr.mk n_2 0 none)),
 Value.pointer (some (Addr.mk n_1 0 none))]
 w1_1) ∧
 ∀ (n_2 : Nat) (w1_1 : World),
 NewB w1
 (Obj.cells
 #[Value.int IntKind.u8 0, Value.int IntKind.u8 0, Value.int IntKind.u8 0,
 Value.int IntKind.u8 0, Value.int IntKind.u8 0, Value.int IntKind.u8 0, Value.int IntKind.u8 0,
 Value.int IntKind.u8 0, Value.int IntKind.u8 0, Value.int IntKind.u8 0, Value.int IntKind.u8 0,
 Value.int IntKind.u8 0, Value.int IntKind.u8 0, Value.int IntKind.u8 0, Value.int IntKind.u8 0,
 Value.int IntKind.u8 0, Value.int IntKind.u8 0, Value.int IntKind.u8 0, Value.int IntKind.u8 0,
 Value.int IntKind.u8 0, Value.int IntKind.u8 0, Value.int IntKind.u8 0, Value.int IntKind.u8 0,
 Value.int IntKind.u8 0, Value.int IntKind.u8 0, Value.int IntKind.u8 0, Value.int IntKind.u8 0,
 Value.int IntKind.u8 0, Value.int IntKind.u8 0, Value.int IntKind.u8 0, Value.int IntKind.u8 0,
 Value.int IntKind.u8 0]
 32)
 n_2 w1_1 →
 S w1_1 ∧
 CallsS Tryz.prog 29 #[Value.int IntKind.u8 x] w1_1 fun (e : Ending) (w' : World) =>
 ∃ (f : Nat → Int),
 e =
 Ending.returned
 (Value.agg
 (arrI IntKind.u8 f 32 0).toArray) ∧
 S w' ∧
 CallsS Tryz.prog 30 #[Value.int IntKind.u8 x_1] w' fun (e : Ending) (w' : World) =>
 ∃ (x : ByteArray),
 e = Ending.returned (Value.string x) ∧
 S w' ∧
 CallsS Tryz.prog 20 #[Value.int IntKind.u8 x_2] w' fun (e : Ending) (w' : World) =>
 ∃ (f_1 : Nat → Int),
 e =
 Ending.returned
 (Value.agg
 (arrI IntKind.u8 f_1 16 0).toArray) ∧
 WrL w' n_2 0 32 ∧
 ∀ (w1 : World),
 PutB w' n_2 0
 (arrI IntKind.u8 f 32 0)
 w1 →
 WrL w1 n_1 0 16 ∧
 ∀ (w1_2 : World),
 PutB w1 n_1 0
 (arrI IntKind.u8 f_1 16 0)
 w1_2 →
 KeptL [n] W_1 w1_2 ∧
 J
 [Value.string x, Value.pointer (some (Addr.mk n_2 0 none)),
 Value.pointer (some (Addr.mk n_1 0 none))]
 w1_2) ∧
 ∀ (x : ByteArray) (x_1 x_2 : Option Addr) (w' : World),
 J [Value.string x, Value.pointer x_1, Value.pointer x_2] w' →
 Loc w.heap.size
 [Blk.mk n 66
 [Value.int IntKind.u8 k, Value.int IntKind.u8 i, Value.int IntKind.u8 g, Value.int IntKind.u8 a,
 Value.int IntKind.i64 now, Value.string t]
 0]
 w' w' →
 nn true x_2 fun (b o : Nat) =>
 ∃ (f : Nat → Int),
 AtL w' b o
 (arrI IntKind.u8 f 16 0) ∧
 CallsS Tryz.prog 39
 #[Value.pointer none, Value.string x,
 Value.agg
 (arrI IntKind.u8 f 16 0).toArray,
 Value.int IntKind.i64 now]
 w' fun (e : Ending) (w'_1 : World) =>
 ∃ (f : Nat → Int),
 ∃ (x_3 : ByteArray),
 ∃ (x_4 : ByteArray),
 ∃ (x_5 : Int),
 ∃ (x_6 : Int),
 ∃ (f_1 : Nat → Int),
 ∃ (x_7 : Int),
 ∃ (x_8 : ByteArray),
 ∃ (x_9 : Int),
 e =
 Ending.returned
 (Value.tuple
 #[Value.agg
 (arrI IntKind.u8 f 32 0 ++ ([Value.string x_3, Value.string x_4,
 Value.int IntKind.i64 x_5, Value.int IntKind.i64 x_6] ++ arrI IntKind.u8 f_1 16 0 ++ [Value.int IntKind.i64 x_7, Value.string x_8])).toArray,
 Value.int IntKind.i64 x_9]) ∧
 KeptL [n] w' w'_1 ∧
 ∀ (n_1 : Nat),
 nn true x_1 fun (b o : Nat) =>
 ∃ (f_2 : Nat → Int),
 (∀ (W : World),
 Loc w.heap.size
 [Blk.mk n_1 48
 (arrI IntKind.u8 f 32 0 ++ ([Value.string x_3, Value.string x_4, Value.int IntKind.i64 x_5,
 Value.int IntKind.i64 x_6] ++ arrI IntKind.u8 f_1 16 0 ++ [Value.int IntKind.i64 x_7, Value.string x_8]))
 (wrM 2),
 Blk.mk n 66
 [Value.int IntKind.u8 k, Value.int IntKind.u8 i, Value.int IntKind.u8 g,
 Value.int IntKind.u8 a, Value.int IntKind.i64 now, Value.string t]
 0]
 w'_1 W →
 AtL W b o
 (arrI IntKind.u8 f_2 32 0)) ∧
 nn true x_2 fun (b o : Nat) =>
 ∃ (f_3 : Nat → Int),
 (∀ (W : World),
 Loc w.heap.size
 [Blk.mk n_1 48
 (arrI IntKind.u8 f 32 0 ++ ([Value.string x_3, Value.string x_4,
 Value.int IntKind.i64 x_5, Value.int IntKind.i64 x_6] ++ arrI IntKind.u8 f_1 16 0 ++ [Value.int IntKind.i64 x_7, Value.string x_8]))
 (wrM 2),
 Blk.mk n 66
 [Value.int IntKind.u8 k, Value.int IntKind.u8 i, Value.int IntKind.u8 g,
 Value.int IntKind.u8 a, Value.int IntKind.i64 now, Value.string t]
 0]
 w'_1 W →
 AtL W b o
 (arrI IntKind.u8 f_3 16 0)) ∧
 ∀ (W : World),
 Loc w.heap.size
 [Blk.mk n_1 48
 (arrI IntKind.u8 f 32 0 ++ ([Value.string x_3, Value.string x_4,
 Value.int IntKind.i64 x_5, Value.int IntKind.i64 x_6] ++ arrI IntKind.u8 f_1 16 0 ++ [Value.int IntKind.i64 x_7, Value.string x_8]))
 (wrM 2),
 Blk.mk n 66
 [Value.int IntKind.u8 k, Value.int IntKind.u8 i, Value.int IntKind.u8 g,
 Value.int IntKind.u8 a, Value.int IntKind.i64 now, Value.string t]
 0]
 w'_1 W →
 CallsS Tryz.prog 19
 #[Value.pointer none,
 Value.agg
 (arrI IntKind.u8 f_2 32 0).toArray,
 Value.string x,
 Value.agg
 (arrI IntKind.u8 f_3 16 0).toArray,
 Value.int IntKind.i64 now]
 W fun (e : Ending) (w' : World) =>
 ∃ (x_10 : Int),
 ∃ (f_4 : Nat → Int),
 ∃ (x_11 : ByteArray),
 ∃ (x_12 : Int),
 ∃ (x_13 : Bool),
 ∃ (p : Option Addr),
 ∃ (n_2 : Nat),
 ∃ (c : Nat),
 ∃ (x_14 : ByteArray),
 ∃ (x_15 : Int),
 ∃ (x_16 : Int),
 ∃ (f_5 : Nat → Int),
 ∃ (x_17 : Int),
 e =
 Ending.returned
 (Value.tuple
 #[Value.agg
 ([Value.int IntKind.i64 x_10] ++ arrI IntKind.u8 f_4 32 0 ++ ([Value.string x_11,
 Value.int IntKind.i64 x_12, Value.bool x_13, Value.slice p n_2 c,
 Value.string x_14, Value.int IntKind.i64 x_15,
 Value.int IntKind.i64 x_16] ++ arrI IntKind.u8 f_5 16 0)).toArray,
 Value.int IntKind.i64 x_17]) ∧
 KeptL [n_1, n] W w' ∧
 ∀ (n_3 : Nat),
 nn true x_1 fun (b o : Nat) =>
 ∃ (f_6 : Nat → Int),
 (∀ (W : World),
 Loc w.heap.size
 [Blk.mk n_3 42
 ([Value.int IntKind.i64 x_10] ++ arrI IntKind.u8 f_4 32 0 ++ ([Value.string x_11, Value.int IntKind.i64 x_12, Value.bool x_13,
 Value.slice p n_2 c, Value.string x_14,
 Value.int IntKind.i64 x_15, Value.int IntKind.i64 x_16] ++ arrI IntKind.u8 f_5 16 0))
 (wrM 2),
 Blk.mk n_1 48
 (arrI IntKind.u8 f 32 0 ++ ([Value.string x_3, Value.string x_4, Value.int IntKind.i64 x_5,
 Value.int IntKind.i64 x_6] ++ arrI IntKind.u8 f_1 16 0 ++ [Value.int IntKind.i64 x_7, Value.string x_8]))
 0,
 Blk.mk n 66
 [Value.int IntKind.u8 k, Value.int IntKind.u8 i,
 Value.int IntKind.u8 g, Value.int IntKind.u8 a,
 Value.int IntKind.i64 now, Value.string t]
 0]
 w' W →
 AtL W b o
 (arrI IntKind.u8 f_6 32 0)) ∧
 ∀ (W : World),
 Loc w.heap.size
 [Blk.mk n_3 42
 ([Value.int IntKind.i64 x_10] ++ arrI IntKind.u8 f_4 32 0 ++ ([Value.string x_11, Value.int IntKind.i64 x_12, Value.bool x_13,
 Value.slice p n_2 c, Value.string x_14,
 Value.int IntKind.i64 x_15, Value.int IntKind.i64 x_16] ++ arrI IntKind.u8 f_5 16 0))
 (wrM 2),
 Blk.mk n_1 48
 (arrI IntKind.u8 f 32 0 ++ ([Value.string x_3, Value.string x_4, Value.int IntKind.i64 x_5,
 Value.int IntKind.i64 x_6] ++ arrI IntKind.u8 f_1 16 0 ++ [Value.int IntKind.i64 x_7, Value.string x_8]))
 0,
 Blk.mk n 66
 [Value.int IntKind.u8 k, Value.int IntKind.u8 i,
 Value.int IntKind.u8 g, Value.int IntKind.u8 a,
 Value.int IntKind.i64 now, Value.string t]
 0]
 w' W →
 CallsS Tryz.prog 41
 #[Value.pointer none,
 Value.agg
 (arrI IntKind.u8 f_6 32 0).toArray,
 Value.string x, Value.int IntKind.i64 now]
 W fun (e : Ending) (w' : World) =>
 ∃ (f_7 : Nat → Int),
 ∃ (x_18 : Bool),
 e =
 Ending.returned
 (Value.tuple
 #[Value.agg
 (arrI IntKind.u8 f_7 16 0).toArray,
 Value.bool x_18]) ∧
 KeptL [n_3, n_1, n] W w' ∧
 ∀ (n_4 : Nat),
 nn true x_1 fun (b o : Nat) =>
 ∃ (f_8 : Nat → Int),
 (∀ (W : World),
 Loc w.heap.size
 [Blk.mk n_4 45
 (arrI IntKind.u8 f_7 16 0)
 (wrM 2),
 Blk.mk n_3 42
 ([Value.int IntKind.i64 x_10] ++ arrI IntKind.u8 f_4 32 0 ++ ([Value.string x_11,
 Value.int IntKind.i64 x_12, Value.bool x_13,
 Value.slice p n_2 c, Value.string x_14,
 Value.int IntKind.i64 x_15,
 Value.int IntKind.i64 x_16] ++ arrI IntKind.u8 f_5 16 0))
 0,
 Blk.mk n_1 48
 (arrI IntKind.u8 f 32 0 ++ ([Value.string x_3,
 Value.string x_4, Value.int IntKind.i64 x_5,
 Value.int IntKind.i64 x_6] ++ arrI IntKind.u8 f_1 16 0 ++ [Value.int IntKind.i64 x_7, Value.string x_8]))
 0,
 Blk.mk n 66
 [Value.int IntKind.u8 k, Value.int IntKind.u8 i,
 Value.int IntKind.u8 g, Value.int IntKind.u8 a,
 Value.int IntKind.i64 now, Value.string t]
 0]
 w' W →
 AtL W b o
 (arrI IntKind.u8 f_8 32 0)) ∧
 ∀ (W : World),
 Loc w.heap.size
 [Blk.mk n_4 45
 (arrI IntKind.u8 f_7 16 0)
 (wrM 2),
 Blk.mk n_3 42
 ([Value.int IntKind.i64 x_10] ++ arrI IntKind.u8 f_4 32 0 ++ ([Value.string x_11,
 Value.int IntKind.i64 x_12, Value.bool x_13,
 Value.slice p n_2 c, Value.string x_14,
 Value.int IntKind.i64 x_15,
 Value.int IntKind.i64 x_16] ++ arrI IntKind.u8 f_5 16 0))
 0,
 Blk.mk n_1 48
 (arrI IntKind.u8 f 32 0 ++ ([Value.string x_3,
 Value.string x_4, Value.int IntKind.i64 x_5,
 Value.int IntKind.i64 x_6] ++ arrI IntKind.u8 f_1 16 0 ++ [Value.int IntKind.i64 x_7, Value.string x_8]))
 0,
 Blk.mk n 66
 [Value.int IntKind.u8 k, Value.int IntKind.u8 i,
 Value.int IntKind.u8 g, Value.int IntKind.u8 a,
 Value.int IntKind.i64 now, Value.string t]
 0]
 w' W →
 CallsS Tryz.prog 21
 #[Value.pointer none,
 Value.agg
 (arrI IntKind.u8 f_8 32 0).toArray,
 Value.string x]
 W fun (e : Ending) (w' : World) =>
 ∃ (f_9 : Nat → Int),
 ∃ (x_19 : ByteArray),
 ∃ (x_20 : ByteArray),
 ∃ (x_21 : Int),
 ∃ (x_22 : Int),
 ∃ (f_10 : Nat → Int),
 ∃ (x_23 : Int),
 ∃ (x_24 : ByteArray),
 ∃ (x_25 : Bool),
 e =
 Ending.returned
 (Value.tuple
 #[Value.agg
 (arrI IntKind.u8 f_9 32 0 ++ ([Value.string x_19, Value.string x_20,
 Value.int IntKind.i64 x_21,
 Value.int IntKind.i64 x_22] ++ arrI IntKind.u8 f_10 16 0 ++ [Value.int IntKind.i64 x_23,
 Value.string x_24])).toArray,
 Value.bool x_25]) ∧
 KeptL [n_4, n_3, n_1, n] W w' ∧
 ∀ (n_5 : Nat) (W : World),
 Loc w.heap.size
 [Blk.mk n_5 48
 (arrI IntKind.u8 f_9 32 0 ++ ([Value.string x_19, Value.string x_20,
 Value.int IntKind.i64 x_21,
 Value.int IntKind.i64 x_22] ++ arrI IntKind.u8 f_10 16 0 ++ [Value.int IntKind.i64 x_23,
 Value.string x_24]))
 (wrM 2),
 Blk.mk n_4 45
 (arrI IntKind.u8 f_7 16 0)
 0,
 Blk.mk n_3 42
 ([Value.int IntKind.i64 x_10] ++ arrI IntKind.u8 f_4 32 0 ++ ([Value.string x_11,
 Value.int IntKind.i64 x_12,
 Value.bool x_13, Value.slice p n_2 c,
 Value.string x_14,
 Value.int IntKind.i64 x_15,
 Value.int IntKind.i64 x_16] ++ arrI IntKind.u8 f_5 16 0))
 0,
 Blk.mk n_1 48
 (arrI IntKind.u8 f 32 0 ++ ([Value.string x_3, Value.string x_4,
 Value.int IntKind.i64 x_5,
 Value.int IntKind.i64 x_6] ++ arrI IntKind.u8 f_1 16 0 ++ [Value.int IntKind.i64 x_7,
 Value.string x_8]))
 0,
 Blk.mk n 66
 [Value.int IntKind.u8 k,
 Value.int IntKind.u8 i,
 Value.int IntKind.u8 g,
 Value.int IntKind.u8 a,
 Value.int IntKind.i64 now,
 Value.string t]
 0]
 w' W →
 CallsS Tryz.prog 14 #[] W
 fun (e : Ending) (w' : World) =>
 ∃ (x_26 : Bool),
 e = Ending.returned (Value.bool x_26) ∧
 KeptL [n_5, n_4, n_3, n_1, n] W w' ∧
 bsp x_26
 (CallsS Tryz.prog 38
 #[Value.pointer none,
 Value.string x,
 Value.slice none 0 0]
 w'
 fun (e : Ending) (w'_2 : World) =>
 ∃ (x_27 : Int),
 e =
 Ending.returned
 (Value.int IntKind.i64 x_27) ∧
 KeptL [n_5, n_4, n_3, n_1, n] w'
 w'_2 ∧
 bsp (true && x_27 == 1)
 (CallsS Tryz.prog 16
 #[Value.pointer none,
 Value.string x]
 w'_2
 fun (e : Ending)
 (w' : World) =>
 ∃ (p : Option Addr),
 ∃ (n_6 : Nat),
 ∃ (c : Nat),
 e =
 Ending.returned
 (Value.slice p n_6 c) ∧
 KeptL
 [n_5, n_4, n_3, n_1, n]
 w'_2 w' ∧
 nn
 (true &&
 (↑n_6 : Int) == 0)
 x_1 fun (b o : Nat) =>
 ∃ (f : Nat → Int),
 gimp
 (true &&
 (↑n_6 : Int) == 0)
 (AtL w' b o
 (arrI IntKind.u8 f 32 0)) ∧
 ∃ (x_28 : Int),
 gimp
 (true &&
 (↑n_6 : Int) == 0)
 (w'.cell?
 (Addr.mk n (0 + 4)
 none) =
 some
 (Value.int
 IntKind.i64
 x_28)) ∧
 bsp
 (true &&
 (↑n_6 : Int) == 0)
 (CallsS Tryz.prog 18
 #[Value.pointer
 none,
 Value.agg
 (arrI IntKind.u8 f 32 0).toArray,
 Value.string x,
 Value.string
 (ByteArray.mk
 #[]),
 Value.int
 IntKind.i64 x_28]
 w'
 fun (e : Ending)
 (w'_3 : World) =>
 ∃ (x_29 : Int),
 e =
 Ending.returned
 (Value.int
 IntKind.i64
 x_29) ∧
 KeptL
 [n_5, n_4, n_3,
 n_1, n]
 w' w'_3 ∧
 nn
 (true &&
 x_29 == 1 &&
 x_9 == 1)
 x_1
 fun
 (b o : Nat) =>
 ∃ (f :
 Nat → Int),
 gimp
 (true &&
 x_29 ==
 1 &&
 x_9 == 1)
 (AtL w'_3 b
 o
 (arrI IntKind.u8 f 32 0)) ∧
 nn
 (true &&
 x_29 ==
 1 &&
 x_9 == 1)
 x_2
 fun
 (b o :
 Nat) =>
 ∃ (f_11 :
 Nat → Int),
 gimp
 (true &&
 x_29 ==
 1 &&
 x_9 ==
 1)
 (AtL w'_3
 b o
 (arrI IntKind.u8 f_11 16 0)) ∧
 ∃ (x_30 :
 Int),
 gimp
 (true &&
 x_29 ==
 1 &&
 x_9 ==
 1)
 (w'_3.cell?
 (Addr.mk
 n
 (0 +
 4)
 none) =
 some
 (Value.int
 IntKind.i64
 x_30)) ∧
 bsp
 (true &&
 x_29 ==
 1 &&
 x_9 ==
 1)
 (CallsS
 Tryz.prog
 43
 #[Value.pointer
 none,
 Value.agg
 (arrI IntKind.u8 f 32 0).toArray,
 Value.string
 x,
 Value.agg
 (arrI IntKind.u8 f_11 16 0).toArray,
 Value.int
 IntKind.i64
 x_30]
 w'_3
 fun
 (e :
 Ending)
 (w' :
 World) =>
 ∃
 (x_31
 :
 Int),
 e =
 Ending.returned
 (Value.int
 IntKind.i64
 x_31) ∧
 KeptL
 [n_5,
 n_4,
 n_3,
 n_1,
 n]
 w'_3
 w' ∧
 nn
 (true &&
 x_31 ==
 1 &&
 !x_18 &&
 x_17 ==
 1)
 x_1
 fun
 (b
 o :
 Nat) =>
 ∃
 (f
 :
 Nat →
 Int),
 gimp
 (true &&
 x_31 ==
 1 &&
 !x_18 &&
 x_17 ==
 1)
 (AtL
 w'
 b
 o
 (arrI IntKind.u8 f 32 0)) ∧
 nn
 (true &&
 x_31 ==
 1 &&
 !x_18 &&
 x_17 ==
 1)
 x_2
 fun
 (b
 o :
 Nat) =>
 ∃
 (f_12
 :
 Nat →
 Int),
 gimp
 (true &&
 x_31 ==
 1 &&
 !x_18 &&
 x_17 ==
 1)
 (AtL
 w'
 b
 o
 (arrI IntKind.u8 f_12 16 0)) ∧
 ∃
 (x_32
 :
 Int),
 gimp
 (true &&
 x_31 ==
 1 &&
 !x_18 &&
 x_17 ==
 1)
 (w'.cell?
 (Addr.mk
 n
 (0 +
 4)
 none) =
 some
 (Value.int
 IntKind.i64
 x_32)) ∧
 bsp
 (true &&
 x_31 ==
 1 &&
 !x_18 &&
 x_17 ==
 1)
 (CallsS
 Tryz.prog
 24
 #[Value.pointer
 none,
 Value.agg
 (arrI IntKind.u8 f 32 0).toArray,
 Value.string
 x,
 Value.agg
 (arrI IntKind.u8 f_12 16 0).toArray,
 Value.string
 (ByteArray.mk
 #[]),
 Value.int
 IntKind.i64
 x_32]
 w'
 fun
 (e :
 Ending)
 (w'_4 :
 World) =>
 ∃
 (x_33
 :
 Int),
 e =
 Ending.returned
 (Value.int
 IntKind.i64
 x_33) ∧
 KeptL
 [n_5,
 n_4,
 n_3,
 n_1,
 n]
 w'
 w'_4 ∧
 ∃
 (x_34
 :
 Int),
 gimp
 (true &&
 x_33 ==
 1)
 (w'_4.cell?
 (Addr.mk
 n
 (0 +
 4)
 none) =
 some
 (Value.int
 IntKind.i64
 x_34)) ∧
 bsp
 (true &&
 x_33 ==
 1)
 (CallsS
 Tryz.prog
 33
 #[Value.pointer
 none,
 Value.int
 IntKind.i64
 x_34]
 w'_4
 fun
 (e :
 Ending)
 (w' :
 World) =>
 ∃
 (p
 :
 Option
 Addr),
 ∃
 (n_7
 :
 Nat),
 ∃
 (c
 :
 Nat),
 e =
 Ending.returned
 (Value.slice
 p
 n_7
 c) ∧
 KeptL
 [n_5,
 n_4,
 n_3,
 n_1,
 n]
 w'_4
 w' ∧
 bsp
 (true &&
 (↑n_7 :
 Int) ==
 0 &&
 !x_25)
 (CallsS
 Tryz.prog
 32
 #[Value.pointer
 none,
 Value.string
 x,
 Value.int
 IntKind.i64
 0]
 w'
 fun
 (e :
 Ending)
 (w'_5 :
 World) =>
 ∃
 (p
 :
 Option
 Addr),
 ∃
 (n_8
 :
 Nat),
 ∃
 (c
 :
 Nat),
 e =
 Ending.returned
 (Value.slice
 p
 n_8
 c) ∧
 KeptL
 [n_5,
 n_4,
 n_3,
 n_1,
 n]
 w'
 w'_5 ∧
 bsp
 (true &&
 (↑n_8 :
 Int) ==
 0)
 (CallsS
 Tryz.prog
 15
 #[Value.pointer
 none,
 Value.string
 x,
 Value.int
 IntKind.i64
 0]
 w'_5
 fun
 (e :
 Ending)
 (w' :
 World) =>
 ∃
 (x
 :
 Int),
 e =
 Ending.returned
 (Value.int
 IntKind.i64
 x) ∧
 KeptL
 [n_5,
 n_4,
 n_3,
 n_1,
 n]
 w'_5
 w' ∧
 ∃
 (x_35
 :
 Int),
 gimp
 (true &&
 x ==
 0)
 (w'.cell?
 (Addr.mk
 n
 (0 +
 4)
 none) =
 some
 (Value.int
 IntKind.i64
 x_35)) ∧
 bsp
 (true &&
 x ==
 0)
 (CallsS
 Tryz.prog
 44
 #[Value.pointer
 none,
 Value.int
 IntKind.i64
 x_35]
 w'
 fun
 (e :
 Ending)
 (w'_6 :
 World) =>
 ∃
 (x
 :
 Int),
 e =
 Ending.returned
 (Value.int
 IntKind.i64
 x) ∧
 KeptL
 [n_5,
 n_4,
 n_3,
 n_1,
 n]
 w'
 w'_6 ∧
 bsp
 (true &&
 x ==
 0)
 (CallsS
 Tryz.prog
 45
 #[Value.pointer
 none]
 w'_6
 fun
 (e :
 Ending)
 (w' :
 World) =>
 ∃
 (x
 :
 Option
 Addr),
 e =
 Ending.returned
 (Value.pointer
 x) ∧
 KeptL
 [n_5,
 n_4,
 n_3,
 n_1,
 n]
 w'_6
 w' ∧
 bsp
 (true &&
 x.isNone)
 (CallsS
 Tryz.prog
 46
 #[Value.pointer
 none,
 Value.pointer
 none]
 w'
 fun
 (e :
 Ending)
 (w'_7 :
 World) =>
 ∃
 (x
 :
 Bool),
 e =
 Ending.returned
 (Value.bool
 x) ∧
 KeptL
 [n_5,
 n_4,
 n_3,
 n_1,
 n]
 w'
 w'_7 ∧
 R
 (Ending.returned
 (Value.bool
 (true &&
 x)))
 w'_7)
 (KeptL
 [n_5,
 n_4,
 n_3,
 n_1,
 n]
 w'
 w' ∧
 R
 (Ending.returned
 (Value.bool
 false))
 w'))
 (KeptL
 [n_5,
 n_4,
 n_3,
 n_1,
 n]
 w'_6
 w'_6 ∧
 KeptL
 [n_5,
 n_4,
 n_3,
 n_1,
 n]
 w'_6
 w'_6 ∧
 R
 (Ending.returned
 (Value.bool
 false))
 w'_6))
 (KeptL
 [n_5,
 n_4,
 n_3,
 n_1,
 n]
 w'
 w' ∧
 KeptL
 [n_5,
 n_4,
 n_3,
 n_1,
 n]
 w'
 w' ∧
 KeptL
 [n_5,
 n_4,
 n_3,
 n_1,
 n]
 w'
 w' ∧
 R
 (Ending.returned
 (Value.bool
 false))
 w'))
 (KeptL
 [n_5,
 n_4,
 n_3,
 n_1,
 n]
 w'_5
 w'_5 ∧
 ∃
 (x
 :
 Int),
 True ∧
 KeptL
 [n_5,
 n_4,
 n_3,
 n_1,
 n]
 w'_5
 w'_5 ∧
 KeptL
 [n_5,
 n_4,
 n_3,
 n_1,
 n]
 w'_5
 w'_5 ∧
 KeptL
 [n_5,
 n_4,
 n_3,
 n_1,
 n]
 w'_5
 w'_5 ∧
 R
 (Ending.returned
 (Value.bool
 false))
 w'_5))
 (KeptL
 [n_5,
 n_4,
 n_3,
 n_1,
 n]
 w'
 w' ∧
 KeptL
 [n_5,
 n_4,
 n_3,
 n_1,
 n]
 w'
 w' ∧
 ∃
 (x
 :
 Int),
 True ∧
 KeptL
 [n_5,
 n_4,
 n_3,
 n_1,
 n]
 w'
 w' ∧
 KeptL
 [n_5,
 n_4,
 n_3,
 n_1,
 n]
 w'
 w' ∧
 KeptL
 [n_5,
 n_4,
 n_3,
 n_1,
 n]
 w'
 w' ∧
 R
 (Ending.returned
 (Value.bool
 false))
 w'))
 (KeptL
 [n_5,
 n_4,
 n_3,
 n_1,
 n]
 w'_4
 w'_4 ∧
 KeptL
 [n_5,
 n_4,
 n_3,
 n_1,
 n]
 w'_4
 w'_4 ∧
 KeptL
 [n_5,
 n_4,
 n_3,
 n_1,
 n]
 w'_4
 w'_4 ∧
 ∃
 (x
 :
 Int),
 True ∧
 KeptL
 [n_5,
 n_4,
 n_3,
 n_1,
 n]
 w'_4
 w'_4 ∧
 KeptL
 [n_5,
 n_4,
 n_3,
 n_1,
 n]
 w'_4
 w'_4 ∧
 KeptL
 [n_5,
 n_4,
 n_3,
 n_1,
 n]
 w'_4
 w'_4 ∧
 R
 (Ending.returned
 (Value.bool
 false))
 w'_4))
 (KeptL
 [n_5,
 n_4,
 n_3,
 n_1,
 n]
 w'
 w' ∧
 ∃
 (x
 :
 Int),
 True ∧
 KeptL
 [n_5,
 n_4,
 n_3,
 n_1,
 n]
 w'
 w' ∧
 KeptL
 [n_5,
 n_4,
 n_3,
 n_1,
 n]
 w'
 w' ∧
 KeptL
 [n_5,
 n_4,
 n_3,
 n_1,
 n]
 w'
 w' ∧
 ∃
 (x
 :
 Int),
 True ∧
 KeptL
 [n_5,
 n_4,
 n_3,
 n_1,
 n]
 w'
 w' ∧
 KeptL
 [n_5,
 n_4,
 n_3,
 n_1,
 n]
 w'
 w' ∧
 KeptL
 [n_5,
 n_4,
 n_3,
 n_1,
 n]
 w'
 w' ∧
 R
 (Ending.returned
 (Value.bool
 false))
 w'))
 (KeptL
 [n_5,
 n_4,
 n_3,
 n_1,
 n]
 w'_3
 w'_3 ∧
 nn
 (false &&
 !x_18 &&
 x_17 ==
 1)
 x_1
 fun
 (b
 o :
 Nat) =>
 ∃ (f
 :
 Nat →
 Int),
 True ∧
 nn
 (false &&
 !x_18 &&
 x_17 ==
 1)
 x_2
 fun
 (b
 o :
 Nat) =>
 ∃
 (f
 :
 Nat →
 Int),
 True ∧
 ∃
 (x
 :
 Int),
 True ∧
 KeptL
 [n_5,
 n_4,
 n_3,
 n_1,
 n]
 w'_3
 w'_3 ∧
 ∃
 (x
 :
 Int),
 True ∧
 KeptL
 [n_5,
 n_4,
 n_3,
 n_1,
 n]
 w'_3
 w'_3 ∧
 KeptL
 [n_5,
 n_4,
 n_3,
 n_1,
 n]
 w'_3
 w'_3 ∧
 KeptL
 [n_5,
 n_4,
 n_3,
 n_1,
 n]
 w'_3
 w'_3 ∧
 ∃
 (x
 :
 Int),
 True ∧
 KeptL
 [n_5,
 n_4,
 n_3,
 n_1,
 n]
 w'_3
 w'_3 ∧
 KeptL
 [n_5,
 n_4,
 n_3,
 n_1,
 n]
 w'_3
 w'_3 ∧
 KeptL
 [n_5,
 n_4,
 n_3,
 n_1,
 n]
 w'_3
 w'_3 ∧
 R
 (Ending.returned
 (Value.bool
 false))
 w'_3))
 (KeptL
 [n_5, n_4, n_3,
 n_1, n]
 w' w' ∧
 nn
 (false &&
 x_9 == 1)
 x_1
 fun (b o : Nat) =>
 ∃ (f : Nat → Int),
 True ∧
 nn
 (false &&
 x_9 == 1)
 x_2
 fun
 (b o : Nat) =>
 ∃ (f :
 Nat → Int),
 True ∧
 ∃ (x : Int),
 True ∧
 KeptL
 [n_5,
 n_4,
 n_3,
 n_1, n]
 w' w' ∧
 nn
 (false &&
 !x_18 &&
 x_17 ==
 1)
 x_1
 fun
 (b o :
 Nat) =>
 ∃ (f :
 Nat →
 Int),
 True ∧
 nn
 (false &&
 !x_18 &&
 x_17 ==
 1)
 x_2
 fun
 (b
 o :
 Nat) =>
 ∃ (f :
 Nat →
 Int),
 True ∧
 ∃ (x
 :
 Int),
 True ∧
 KeptL
 [n_5,
 n_4,
 n_3,
 n_1,
 n]
 w'
 w' ∧
 ∃
 (x
 :
 Int),
 True ∧
 KeptL
 [n_5,
 n_4,
 n_3,
 n_1,
 n]
 w'
 w' ∧
 KeptL
 [n_5,
 n_4,
 n_3,
 n_1,
 n]
 w'
 w' ∧
 KeptL
 [n_5,
 n_4,
 n_3,
 n_1,
 n]
 w'
 w' ∧
 ∃
 (x
 :
 Int),
 True ∧
 KeptL
 [n_5,
 n_4,
 n_3,
 n_1,
 n]
 w'
 w' ∧
 KeptL
 [n_5,
 n_4,
 n_3,
 n_1,
 n]
 w'
 w' ∧
 KeptL
 [n_5,
 n_4,
 n_3,
 n_1,
 n]
 w'
 w' ∧
 R
 (Ending.returned
 (Value.bool
 false))
 w'))
 (KeptL [n_5, n_4, n_3, n_1, n]
 w'_2 w'_2 ∧
 nn false x_1 fun (b o : Nat) =>
 ∃ (f : Nat → Int),
 True ∧
 ∃ (x : Int),
 True ∧
 KeptL
 [n_5, n_4, n_3, n_1, n]
 w'_2 w'_2 ∧
 nn (false && x_9 == 1)
 x_1 fun (b o : Nat) =>
 ∃ (f : Nat → Int),
 True ∧
 nn (false && x_9 == 1)
 x_2
 fun (b o : Nat) =>
 ∃ (f : Nat → Int),
 True ∧
 ∃ (x : Int),
 True ∧
 KeptL
 [n_5, n_4, n_3,
 n_1, n]
 w'_2 w'_2 ∧
 nn
 (false &&
 !x_18 &&
 x_17 == 1)
 x_1
 fun
 (b o : Nat) =>
 ∃ (f :
 Nat → Int),
 True ∧
 nn
 (false &&
 !x_18 &&
 x_17 == 1)
 x_2
 fun
 (b o :
 Nat) =>
 ∃ (f :
 Nat → Int),
 True ∧
 ∃ (x :
 Int),
 True ∧
 KeptL
 [n_5,
 n_4,
 n_3,
 n_1,
 n]
 w'_2
 w'_2 ∧
 ∃ (x :
 Int),
 True ∧
 KeptL
 [n_5,
 n_4,
 n_3,
 n_1,
 n]
 w'_2
 w'_2 ∧
 KeptL
 [n_5,
 n_4,
 n_3,
 n_1,
 n]
 w'_2
 w'_2 ∧
 KeptL
 [n_5,
 n_4,
 n_3,
 n_1,
 n]
 w'_2
 w'_2 ∧
 ∃
 (x
 :
 Int),
 True ∧
 KeptL
 [n_5,
 n_4,
 n_3,
 n_1,
 n]
 w'_2
 w'_2 ∧
 KeptL
 [n_5,
 n_4,
 n_3,
 n_1,
 n]
 w'_2
 w'_2 ∧
 KeptL
 [n_5,
 n_4,
 n_3,
 n_1,
 n]
 w'_2
 w'_2 ∧
 R
 (Ending.returned
 (Value.bool
 false))
 w'_2))
 (KeptL [n_5, n_4, n_3, n_1, n] w'
 w' ∧
 KeptL [n_5, n_4, n_3, n_1, n] w'
 w' ∧
 nn false x_1 fun (b o : Nat) =>
 ∃ (f : Nat → Int),
 True ∧
 ∃ (x : Int),
 True ∧
 KeptL [n_5, n_4, n_3, n_1, n]
 w' w' ∧
 nn (false && x_9 == 1) x_1
 fun (b o : Nat) =>
 ∃ (f : Nat → Int),
 True ∧
 nn (false && x_9 == 1) x_2
 fun (b o : Nat) =>
 ∃ (f : Nat → Int),
 True ∧
 ∃ (x : Int),
 True ∧
 KeptL
 [n_5, n_4, n_3,
 n_1, n]
 w' w' ∧
 nn
 (false && !x_18 &&
 x_17 == 1)
 x_1
 fun (b o : Nat) =>
 ∃ (f : Nat → Int),
 True ∧
 nn
 (false &&
 !x_18 &&
 x_17 == 1)
 x_2
 fun
 (b o : Nat) =>
 ∃ (f :
 Nat → Int),
 True ∧
 ∃ (x : Int),
 True ∧
 KeptL
 [n_5, n_4,
 n_3, n_1,
 n]
 w' w' ∧
 ∃ (x :
 Int),
 True ∧
 KeptL
 [n_5,
 n_4,
 n_3,
 n_1,
 n]
 w' w' ∧
 KeptL
 [n_5,
 n_4,
 n_3,
 n_1,
 n]
 w'
 w' ∧
 KeptL
 [n_5,
 n_4,
 n_3,
 n_1,
 n]
 w'
 w' ∧
 ∃ (x :
 Int),
 True ∧
 KeptL
 [n_5,
 n_4,
 n_3,
 n_1,
 n]
 w'
 w' ∧
 KeptL
 [n_5,
 n_4,
 n_3,
 n_1,
 n]
 w'
 w' ∧
 KeptL
 [n_5,
 n_4,
 n_3,
 n_1,
 n]
 w'
 w' ∧
 R
 (Ending.returned
 (Value.bool
 false))
 w')
theorem vc_lmnil (k : Int) (i : Int) (g : Int) (a : Int) (now : Int) (t : ByteArray) (w : World) (R : Ending → World → Prop) (h : VC_lmnil k i g a now t w R) : Calls Tryz.prog 11 ([Value.agg
    #[Value.int IntKind.u8 k, Value.int IntKind.u8 i, Value.int IntKind.u8 g, Value.int IntKind.u8 a,
      Value.int IntKind.i64 now, Value.string t]] : List Value).toArray w R := by
  have e : execR2 { P := Tryz.prog, loops := [], pur := pur1, tails := [(2, 2)], joins := [(3, [(5, Ck.str), (4, .ptr), (6, .ptr)])], boxes := [] } Tryz.f11.results.toList R (Tryz.f11.body.getD .skip) (initF [Value.agg
    #[Value.int IntKind.u8 k, Value.int IntKind.u8 i, Value.int IntKind.u8 g, Value.int IntKind.u8 a,
      Value.int IntKind.i64 now,
      Value.string
        t]] (Tryz.f11.ntmps - ([Value.agg
    #[Value.int IntKind.u8 k, Value.int IntKind.u8 i, Value.int IntKind.u8 g, Value.int IntKind.u8 a,
      Value.int IntKind.i64 now, Value.string t]] : List Value).length)) w = VC_lmnil k i g a now t w R := by kernel_rfl
  have hb : Tryz.f11.body = some (Tryz.f11.body.getD .skip) := by kernel_rfl
  exact calls_of_exec2' (P := Tryz.prog) (fn := Tryz.f11) (c := Tryz.f11.body.getD .skip) (args := [Value.agg
    #[Value.int IntKind.u8 k, Value.int IntKind.u8 i, Value.int IntKind.u8 g, Value.int IntKind.u8 a,
      Value.int IntKind.i64 now, Value.string t]]) (w := w) (R := R) pur1_ok Tryz.func11 hb e h

end Go.Proofs.YtfacflbmlfbeeaaGreatDoor

/- Chapter 39: the contract of ModerationNil. Printed by mknil39.py. The library's variable MaxLen holds a number. -/
namespace Go.Proofs.YtfacflbmlfbeeaaGreatDoor
open Go.RowKit Go.Sort Go.Maps

theorem setMods0_any (s : ByteArray) (p : Option Addr) (n c : Nat) (w : World) : Calls Tryz.prog 38 #[.pointer none, .string s, .slice p n c] w fun e w' => e = .returned (.int .i64 1) ∧ K0 w w' := vc_setMods0 s p n c w _ ⟨rfl, .refl _ _⟩
theorem mods0_any (s : ByteArray) (w : World) : Calls Tryz.prog 16 #[.pointer none, .string s] w fun e w' => e = .returned (.slice none 0 0) ∧ K0 w w' := vc_mods0 s w _ ⟨rfl, .refl _ _⟩
theorem clone0_any (w : World) : Calls Tryz.prog 45 #[.pointer none] w fun e w' => e = .returned (.pointer none) ∧ K0 w w' := vc_clone0 w _ ⟨rfl, .refl _ _⟩
theorem equal0_any (w : World) : Calls Tryz.prog 46 #[.pointer none, .pointer none] w fun e w' => e = .returned (.bool true) ∧ K0 w w' := vc_equal0 w _ ⟨rfl, .refl _ _⟩
set_option maxRecDepth 100000 in
set_option maxHeartbeats 32000000 in
theorem lnil_any (k i g a now : Int) (t : ByteArray) (hg0 : 0 ≤ g) (w : World) (hG : GW w) :
    Calls Tryz.prog 11 #[.agg (([.int .u8 k, .int .u8 i, .int .u8 g, .int .u8 a, .int .i64 now, .string t] : List Value)).toArray] w fun e w' => e = .returned (.bool true) ∧ K0 w w' := by
  refine vc_lmnil k i g a now t w _ (fun n W hW => ?_)
  have kW : K0 w W := hW.kk rfl
  refine ⟨fun vs wx => ∃ n1 n2 : Nat, vs = [.string (nmG g), .pointer (some ⟨n1, 0, none⟩), .pointer (some ⟨n2, 0, none⟩)] ∧ wx.heap[n1]? = some (.cells (arrI .u8 (idN i) 32 0).toArray 32 (0, 0)) ∧ wx.heap[n2]? = some (.cells (arrI .u8 (auN a) 16 0).toArray 45 (0, 0)) ∧ K0 w wx, fun W1 hW1 => ?_, ?_⟩
  · have kW1' : K0 W W1 := hW1.kk rfl
    have hkW := kW.trans kW1'
    have hc := hW1.cells 0 rfl
    have hnW := block_lt hc
    simp only at hnW
    clear hW hW1
    have kW1 : K0 W1 W1 := .refl _ _
    refine ⟨fun wx => K0 W1 wx, kW1, i, fun wx k => cell_at (k.blk hc (fun h => h)) rfl, g, fun wx k => cell_at (k.blk hc (fun h => h)) rfl, a, fun wx k => cell_at (k.blk hc (fun h => h)) rfl, ?_⟩
    refine ⟨?_, ?_, ?_⟩
    · refine ⟨(lid_any i W1).mono fun e v0 ⟨he, kk0⟩ => ⟨_, he, kW1.trans kk0, ?_⟩⟩
      have kc0 := kW1.trans kk0
      refine ⟨?_, ?_, ?_⟩
      · refine ⟨(lname_any g hg0 v0).mono fun e v1 ⟨he, kk1⟩ => ⟨_, he, kc0.trans kk1, ?_⟩⟩
        have kc1 := kc0.trans kk1
        refine ⟨?_, ?_, ?_⟩
        · refine ⟨(lauthor_any a v1).mono fun e v2 ⟨he, kk2⟩ => ⟨_, he, ?_⟩⟩
          have kc2 := kc1.trans kk2
          refine ⟨?_, ?_⟩
          · intro n1 v3 hb3
            have kc3 := kc2.trans (hb3.kp (fun _ => False))
            have gX := Nat.le_trans kc2.size hb3.ge
            refine ⟨kc3, ?_⟩
            have cX3 := hb3.block
            intro n2 v4 hb4
            have kc4 := kc3.trans (hb4.kp (fun _ => False))
            have gY := Nat.le_trans kc3.size hb4.ge
            refine ⟨kc4, ?_⟩
            have cY4 := hb4.block
            have cX4 := (hb4.kp (fun _ => False)).blk cX3 (fun h => h)
            exact dofin kc4 gX gY cX4 rfl cY4 rfl (fun w2 kk a1 a2 => ⟨n1, n2, rfl, a1, a2, hkW.trans kk⟩)
          · intro n2 v3 hb3
            have kc3 := kc2.trans (hb3.kp (fun _ => False))
            have gY := Nat.le_trans kc2.size hb3.ge
            refine ⟨kc3, ?_⟩
            have cY3 := hb3.block
            intro n1 v4 hb4
            have kc4 := kc3.trans (hb4.kp (fun _ => False))
            have gX := Nat.le_trans kc3.size hb4.ge
            refine ⟨kc4, ?_⟩
            have cX4 := hb4.block
            have cY4 := (hb4.kp (fun _ => False)).blk cY3 (fun h => h)
            exact dofin kc4 gX gY cX4 rfl cY4 rfl (fun w2 kk a1 a2 => ⟨n1, n2, rfl, a1, a2, hkW.trans kk⟩)
        · intro n1 v2 hb2
          have kc2 := kc1.trans (hb2.kp (fun _ => False))
          have gX := Nat.le_trans kc1.size hb2.ge
          refine ⟨kc2, ?_⟩
          have cX2 := hb2.block
          refine ⟨?_, ?_⟩
          · refine ⟨(lauthor_any a v2).mono fun e v3 ⟨he, kk3⟩ => ⟨_, he, ?_⟩⟩
            have kc3 := kc2.trans kk3
            have cX3 := kk3.blk cX2 (fun h => h)
            intro n2 v4 hb4
            have kc4 := kc3.trans (hb4.kp (fun _ => False))
            have gY := Nat.le_trans kc3.size hb4.ge
            refine ⟨kc4, ?_⟩
            have cY4 := hb4.block
            have cX4 := (hb4.kp (fun _ => False)).blk cX3 (fun h => h)
            exact dofin kc4 gX gY cX4 rfl cY4 rfl (fun w2 kk a1 a2 => ⟨n1, n2, rfl, a1, a2, hkW.trans kk⟩)
          · intro n2 v3 hb3
            have kc3 := kc2.trans (hb3.kp (fun _ => False))
            have gY := Nat.le_trans kc2.size hb3.ge
            refine ⟨kc3, ?_⟩
            have cY3 := hb3.block
            have cX3 := (hb3.kp (fun _ => False)).blk cX2 (fun h => h)
            refine ⟨(lauthor_any a v3).mono fun e v4 ⟨he, kk4⟩ => ⟨_, he, ?_⟩⟩
            have kc4 := kc3.trans kk4
            have cX4 := kk4.blk cX3 (fun h => h)
            have cY4 := kk4.blk cY3 (fun h => h)
            exact dofin kc4 gX gY cX4 rfl cY4 rfl (fun w2 kk a1 a2 => ⟨n1, n2, rfl, a1, a2, hkW.trans kk⟩)
        · intro n2 v2 hb2
          have kc2 := kc1.trans (hb2.kp (fun _ => False))
          have gY := Nat.le_trans kc1.size hb2.ge
          refine ⟨kc2, ?_⟩
          have cY2 := hb2.block
          refine ⟨?_, ?_⟩
          · refine ⟨(lauthor_any a v2).mono fun e v3 ⟨he, kk3⟩ => ⟨_, he, ?_⟩⟩
            have kc3 := kc2.trans kk3
            have cY3 := kk3.blk cY2 (fun h => h)
            intro n1 v4 hb4
            have kc4 := kc3.trans (hb4.kp (fun _ => False))
            have gX := Nat.le_trans kc3.size hb4.ge
            refine ⟨kc4, ?_⟩
            have cX4 := hb4.block
            have cY4 := (hb4.kp (fun _ => False)).blk cY3 (fun h => h)
            exact dofin kc4 gX gY cX4 rfl cY4 rfl (fun w2 kk a1 a2 => ⟨n1, n2, rfl, a1, a2, hkW.trans kk⟩)
          · intro n1 v3 hb3
            have kc3 := kc2.trans (hb3.kp (fun _ => False))
            have gX := Nat.le_trans kc2.size hb3.ge
            refine ⟨kc3, ?_⟩
            have cX3 := hb3.block
            have cY3 := (hb3.kp (fun _ => False)).blk cY2 (fun h => h)
            refine ⟨(lauthor_any a v3).mono fun e v4 ⟨he, kk4⟩ => ⟨_, he, ?_⟩⟩
            have kc4 := kc3.trans kk4
            have cX4 := kk4.blk cX3 (fun h => h)
            have cY4 := kk4.blk cY3 (fun h => h)
            exact dofin kc4 gX gY cX4 rfl cY4 rfl (fun w2 kk a1 a2 => ⟨n1, n2, rfl, a1, a2, hkW.trans kk⟩)
      · intro n1 v1 hb1
        have kc1 := kc0.trans (hb1.kp (fun _ => False))
        have gX := Nat.le_trans kc0.size hb1.ge
        refine ⟨kc1, ?_⟩
        have cX1 := hb1.block
        refine ⟨?_, ?_⟩
        · refine ⟨(lname_any g hg0 v1).mono fun e v2 ⟨he, kk2⟩ => ⟨_, he, kc1.trans kk2, ?_⟩⟩
          have kc2 := kc1.trans kk2
          have cX2 := kk2.blk cX1 (fun h => h)
          refine ⟨?_, ?_⟩
          · refine ⟨(lauthor_any a v2).mono fun e v3 ⟨he, kk3⟩ => ⟨_, he, ?_⟩⟩
            have kc3 := kc2.trans kk3
            have cX3 := kk3.blk cX2 (fun h => h)
            intro n2 v4 hb4
            have kc4 := kc3.trans (hb4.kp (fun _ => False))
            have gY := Nat.le_trans kc3.size hb4.ge
            refine ⟨kc4, ?_⟩
            have cY4 := hb4.block
            have cX4 := (hb4.kp (fun _ => False)).blk cX3 (fun h => h)
            exact dofin kc4 gX gY cX4 rfl cY4 rfl (fun w2 kk a1 a2 => ⟨n1, n2, rfl, a1, a2, hkW.trans kk⟩)
          · intro n2 v3 hb3
            have kc3 := kc2.trans (hb3.kp (fun _ => False))
            have gY := Nat.le_trans kc2.size hb3.ge
            refine ⟨kc3, ?_⟩
            have cY3 := hb3.block
            have cX3 := (hb3.kp (fun _ => False)).blk cX2 (fun h => h)
            refine ⟨(lauthor_any a v3).mono fun e v4 ⟨he, kk4⟩ => ⟨_, he, ?_⟩⟩
            have kc4 := kc3.trans kk4
            have cX4 := kk4.blk cX3 (fun h => h)
            have cY4 := kk4.blk cY3 (fun h => h)
            exact dofin kc4 gX gY cX4 rfl cY4 rfl (fun w2 kk a1 a2 => ⟨n1, n2, rfl, a1, a2, hkW.trans kk⟩)
        · intro n2 v2 hb2
          have kc2 := kc1.trans (hb2.kp (fun _ => False))
          have gY := Nat.le_trans kc1.size hb2.ge
          refine ⟨kc2, ?_⟩
          have cY2 := hb2.block
          have cX2 := (hb2.kp (fun _ => False)).blk cX1 (fun h => h)
          refine ⟨(lname_any g hg0 v2).mono fun e v3 ⟨he, kk3⟩ => ⟨_, he, kc2.trans kk3, ?_⟩⟩
          have kc3 := kc2.trans kk3
          have cX3 := kk3.blk cX2 (fun h => h)
          have cY3 := kk3.blk cY2 (fun h => h)
          refine ⟨(lauthor_any a v3).mono fun e v4 ⟨he, kk4⟩ => ⟨_, he, ?_⟩⟩
          have kc4 := kc3.trans kk4
          have cX4 := kk4.blk cX3 (fun h => h)
          have cY4 := kk4.blk cY3 (fun h => h)
          exact dofin kc4 gX gY cX4 rfl cY4 rfl (fun w2 kk a1 a2 => ⟨n1, n2, rfl, a1, a2, hkW.trans kk⟩)
      · intro n2 v1 hb1
        have kc1 := kc0.trans (hb1.kp (fun _ => False))
        have gY := Nat.le_trans kc0.size hb1.ge
        refine ⟨kc1, ?_⟩
        have cY1 := hb1.block
        refine ⟨?_, ?_⟩
        · refine ⟨(lname_any g hg0 v1).mono fun e v2 ⟨he, kk2⟩ => ⟨_, he, kc1.trans kk2, ?_⟩⟩
          have kc2 := kc1.trans kk2
          have cY2 := kk2.blk cY1 (fun h => h)
          refine ⟨?_, ?_⟩
          · refine ⟨(lauthor_any a v2).mono fun e v3 ⟨he, kk3⟩ => ⟨_, he, ?_⟩⟩
            have kc3 := kc2.trans kk3
            have cY3 := kk3.blk cY2 (fun h => h)
            intro n1 v4 hb4
            have kc4 := kc3.trans (hb4.kp (fun _ => False))
            have gX := Nat.le_trans kc3.size hb4.ge
            refine ⟨kc4, ?_⟩
            have cX4 := hb4.block
            have cY4 := (hb4.kp (fun _ => False)).blk cY3 (fun h => h)
            exact dofin kc4 gX gY cX4 rfl cY4 rfl (fun w2 kk a1 a2 => ⟨n1, n2, rfl, a1, a2, hkW.trans kk⟩)
          · intro n1 v3 hb3
            have kc3 := kc2.trans (hb3.kp (fun _ => False))
            have gX := Nat.le_trans kc2.size hb3.ge
            refine ⟨kc3, ?_⟩
            have cX3 := hb3.block
            have cY3 := (hb3.kp (fun _ => False)).blk cY2 (fun h => h)
            refine ⟨(lauthor_any a v3).mono fun e v4 ⟨he, kk4⟩ => ⟨_, he, ?_⟩⟩
            have kc4 := kc3.trans kk4
            have cX4 := kk4.blk cX3 (fun h => h)
            have cY4 := kk4.blk cY3 (fun h => h)
            exact dofin kc4 gX gY cX4 rfl cY4 rfl (fun w2 kk a1 a2 => ⟨n1, n2, rfl, a1, a2, hkW.trans kk⟩)
        · intro n1 v2 hb2
          have kc2 := kc1.trans (hb2.kp (fun _ => False))
          have gX := Nat.le_trans kc1.size hb2.ge
          refine ⟨kc2, ?_⟩
          have cX2 := hb2.block
          have cY2 := (hb2.kp (fun _ => False)).blk cY1 (fun h => h)
          refine ⟨(lname_any g hg0 v2).mono fun e v3 ⟨he, kk3⟩ => ⟨_, he, kc2.trans kk3, ?_⟩⟩
          have kc3 := kc2.trans kk3
          have cX3 := kk3.blk cX2 (fun h => h)
          have cY3 := kk3.blk cY2 (fun h => h)
          refine ⟨(lauthor_any a v3).mono fun e v4 ⟨he, kk4⟩ => ⟨_, he, ?_⟩⟩
          have kc4 := kc3.trans kk4
          have cX4 := kk4.blk cX3 (fun h => h)
          have cY4 := kk4.blk cY3 (fun h => h)
          exact dofin kc4 gX gY cX4 rfl cY4 rfl (fun w2 kk a1 a2 => ⟨n1, n2, rfl, a1, a2, hkW.trans kk⟩)
    · intro n1 v0 hb0
      have kc0 := kW1.trans (hb0.kp (fun _ => False))
      have gX := Nat.le_trans kW1.size hb0.ge
      refine ⟨kc0, ?_⟩
      have cX0 := hb0.block
      refine ⟨?_, ?_⟩
      · refine ⟨(lid_any i v0).mono fun e v1 ⟨he, kk1⟩ => ⟨_, he, kc0.trans kk1, ?_⟩⟩
        have kc1 := kc0.trans kk1
        have cX1 := kk1.blk cX0 (fun h => h)
        refine ⟨?_, ?_⟩
        · refine ⟨(lname_any g hg0 v1).mono fun e v2 ⟨he, kk2⟩ => ⟨_, he, kc1.trans kk2, ?_⟩⟩
          have kc2 := kc1.trans kk2
          have cX2 := kk2.blk cX1 (fun h => h)
          refine ⟨?_, ?_⟩
          · refine ⟨(lauthor_any a v2).mono fun e v3 ⟨he, kk3⟩ => ⟨_, he, ?_⟩⟩
            have kc3 := kc2.trans kk3
            have cX3 := kk3.blk cX2 (fun h => h)
            intro n2 v4 hb4
            have kc4 := kc3.trans (hb4.kp (fun _ => False))
            have gY := Nat.le_trans kc3.size hb4.ge
            refine ⟨kc4, ?_⟩
            have cY4 := hb4.block
            have cX4 := (hb4.kp (fun _ => False)).blk cX3 (fun h => h)
            exact dofin kc4 gX gY cX4 rfl cY4 rfl (fun w2 kk a1 a2 => ⟨n1, n2, rfl, a1, a2, hkW.trans kk⟩)
          · intro n2 v3 hb3
            have kc3 := kc2.trans (hb3.kp (fun _ => False))
            have gY := Nat.le_trans kc2.size hb3.ge
            refine ⟨kc3, ?_⟩
            have cY3 := hb3.block
            have cX3 := (hb3.kp (fun _ => False)).blk cX2 (fun h => h)
            refine ⟨(lauthor_any a v3).mono fun e v4 ⟨he, kk4⟩ => ⟨_, he, ?_⟩⟩
            have kc4 := kc3.trans kk4
            have cX4 := kk4.blk cX3 (fun h => h)
            have cY4 := kk4.blk cY3 (fun h => h)
            exact dofin kc4 gX gY cX4 rfl cY4 rfl (fun w2 kk a1 a2 => ⟨n1, n2, rfl, a1, a2, hkW.trans kk⟩)
        · intro n2 v2 hb2
          have kc2 := kc1.trans (hb2.kp (fun _ => False))
          have gY := Nat.le_trans kc1.size hb2.ge
          refine ⟨kc2, ?_⟩
          have cY2 := hb2.block
          have cX2 := (hb2.kp (fun _ => False)).blk cX1 (fun h => h)
          refine ⟨(lname_any g hg0 v2).mono fun e v3 ⟨he, kk3⟩ => ⟨_, he, kc2.trans kk3, ?_⟩⟩
          have kc3 := kc2.trans kk3
          have cX3 := kk3.blk cX2 (fun h => h)
          have cY3 := kk3.blk cY2 (fun h => h)
          refine ⟨(lauthor_any a v3).mono fun e v4 ⟨he, kk4⟩ => ⟨_, he, ?_⟩⟩
          have kc4 := kc3.trans kk4
          have cX4 := kk4.blk cX3 (fun h => h)
          have cY4 := kk4.blk cY3 (fun h => h)
          exact dofin kc4 gX gY cX4 rfl cY4 rfl (fun w2 kk a1 a2 => ⟨n1, n2, rfl, a1, a2, hkW.trans kk⟩)
      · intro n2 v1 hb1
        have kc1 := kc0.trans (hb1.kp (fun _ => False))
        have gY := Nat.le_trans kc0.size hb1.ge
        refine ⟨kc1, ?_⟩
        have cY1 := hb1.block
        have cX1 := (hb1.kp (fun _ => False)).blk cX0 (fun h => h)
        refine ⟨(lid_any i v1).mono fun e v2 ⟨he, kk2⟩ => ⟨_, he, kc1.trans kk2, ?_⟩⟩
        have kc2 := kc1.trans kk2
        have cX2 := kk2.blk cX1 (fun h => h)
        have cY2 := kk2.blk cY1 (fun h => h)
        refine ⟨(lname_any g hg0 v2).mono fun e v3 ⟨he, kk3⟩ => ⟨_, he, kc2.trans kk3, ?_⟩⟩
        have kc3 := kc2.trans kk3
        have cX3 := kk3.blk cX2 (fun h => h)
        have cY3 := kk3.blk cY2 (fun h => h)
        refine ⟨(lauthor_any a v3).mono fun e v4 ⟨he, kk4⟩ => ⟨_, he, ?_⟩⟩
        have kc4 := kc3.trans kk4
        have cX4 := kk4.blk cX3 (fun h => h)
        have cY4 := kk4.blk cY3 (fun h => h)
        exact dofin kc4 gX gY cX4 rfl cY4 rfl (fun w2 kk a1 a2 => ⟨n1, n2, rfl, a1, a2, hkW.trans kk⟩)
    · intro n2 v0 hb0
      have kc0 := kW1.trans (hb0.kp (fun _ => False))
      have gY := Nat.le_trans kW1.size hb0.ge
      refine ⟨kc0, ?_⟩
      have cY0 := hb0.block
      refine ⟨?_, ?_⟩
      · refine ⟨(lid_any i v0).mono fun e v1 ⟨he, kk1⟩ => ⟨_, he, kc0.trans kk1, ?_⟩⟩
        have kc1 := kc0.trans kk1
        have cY1 := kk1.blk cY0 (fun h => h)
        refine ⟨?_, ?_⟩
        · refine ⟨(lname_any g hg0 v1).mono fun e v2 ⟨he, kk2⟩ => ⟨_, he, kc1.trans kk2, ?_⟩⟩
          have kc2 := kc1.trans kk2
          have cY2 := kk2.blk cY1 (fun h => h)
          refine ⟨?_, ?_⟩
          · refine ⟨(lauthor_any a v2).mono fun e v3 ⟨he, kk3⟩ => ⟨_, he, ?_⟩⟩
            have kc3 := kc2.trans kk3
            have cY3 := kk3.blk cY2 (fun h => h)
            intro n1 v4 hb4
            have kc4 := kc3.trans (hb4.kp (fun _ => False))
            have gX := Nat.le_trans kc3.size hb4.ge
            refine ⟨kc4, ?_⟩
            have cX4 := hb4.block
            have cY4 := (hb4.kp (fun _ => False)).blk cY3 (fun h => h)
            exact dofin kc4 gX gY cX4 rfl cY4 rfl (fun w2 kk a1 a2 => ⟨n1, n2, rfl, a1, a2, hkW.trans kk⟩)
          · intro n1 v3 hb3
            have kc3 := kc2.trans (hb3.kp (fun _ => False))
            have gX := Nat.le_trans kc2.size hb3.ge
            refine ⟨kc3, ?_⟩
            have cX3 := hb3.block
            have cY3 := (hb3.kp (fun _ => False)).blk cY2 (fun h => h)
            refine ⟨(lauthor_any a v3).mono fun e v4 ⟨he, kk4⟩ => ⟨_, he, ?_⟩⟩
            have kc4 := kc3.trans kk4
            have cX4 := kk4.blk cX3 (fun h => h)
            have cY4 := kk4.blk cY3 (fun h => h)
            exact dofin kc4 gX gY cX4 rfl cY4 rfl (fun w2 kk a1 a2 => ⟨n1, n2, rfl, a1, a2, hkW.trans kk⟩)
        · intro n1 v2 hb2
          have kc2 := kc1.trans (hb2.kp (fun _ => False))
          have gX := Nat.le_trans kc1.size hb2.ge
          refine ⟨kc2, ?_⟩
          have cX2 := hb2.block
          have cY2 := (hb2.kp (fun _ => False)).blk cY1 (fun h => h)
          refine ⟨(lname_any g hg0 v2).mono fun e v3 ⟨he, kk3⟩ => ⟨_, he, kc2.trans kk3, ?_⟩⟩
          have kc3 := kc2.trans kk3
          have cX3 := kk3.blk cX2 (fun h => h)
          have cY3 := kk3.blk cY2 (fun h => h)
          refine ⟨(lauthor_any a v3).mono fun e v4 ⟨he, kk4⟩ => ⟨_, he, ?_⟩⟩
          have kc4 := kc3.trans kk4
          have cX4 := kk4.blk cX3 (fun h => h)
          have cY4 := kk4.blk cY3 (fun h => h)
          exact dofin kc4 gX gY cX4 rfl cY4 rfl (fun w2 kk a1 a2 => ⟨n1, n2, rfl, a1, a2, hkW.trans kk⟩)
      · intro n1 v1 hb1
        have kc1 := kc0.trans (hb1.kp (fun _ => False))
        have gX := Nat.le_trans kc0.size hb1.ge
        refine ⟨kc1, ?_⟩
        have cX1 := hb1.block
        have cY1 := (hb1.kp (fun _ => False)).blk cY0 (fun h => h)
        refine ⟨(lid_any i v1).mono fun e v2 ⟨he, kk2⟩ => ⟨_, he, kc1.trans kk2, ?_⟩⟩
        have kc2 := kc1.trans kk2
        have cX2 := kk2.blk cX1 (fun h => h)
        have cY2 := kk2.blk cY1 (fun h => h)
        refine ⟨(lname_any g hg0 v2).mono fun e v3 ⟨he, kk3⟩ => ⟨_, he, kc2.trans kk3, ?_⟩⟩
        have kc3 := kc2.trans kk3
        have cX3 := kk3.blk cX2 (fun h => h)
        have cY3 := kk3.blk cY2 (fun h => h)
        refine ⟨(lauthor_any a v3).mono fun e v4 ⟨he, kk4⟩ => ⟨_, he, ?_⟩⟩
        have kc4 := kc3.trans kk4
        have cX4 := kk4.blk cX3 (fun h => h)
        have cY4 := kk4.blk cY3 (fun h => h)
        exact dofin kc4 gX gY cX4 rfl cY4 rfl (fun w2 kk a1 a2 => ⟨n1, n2, rfl, a1, a2, hkW.trans kk⟩)
  rintro xs x1 x2 w3 ⟨n1, n2, hv, c1, c2, k3⟩ hL
  simp only [List.cons.injEq, Value.string.injEq, Value.pointer.injEq, and_true] at hv
  obtain ⟨rfl, rfl, rfl⟩ := hv
  have cn := hL.cells 0 rfl
  clear hW hL
  have aI : ∀ {wx : World}, K0 w3 wx → AtL wx n1 0 (arrI .u8 (idN i) 32 0) := fun kk => AtL_block (kk.blk c1 (fun h => h)) rfl
  have aA : ∀ {wx : World}, K0 w3 wx → AtL wx n2 0 (arrI .u8 (auN a) 16 0) := fun kk => AtL_block (kk.blk c2 (fun h => h)) rfl
  have aN : ∀ {wx : World}, K0 w3 wx → wx.cell? ⟨n, 0 + 4, none⟩ = some (.int .i64 now) := fun kk => cell_at (kk.blk cn (fun h => h)) rfl
  refine nn_is rfl ⟨auN a, aA (.refl _ _), ⟨(claim0_any (nmG g) (auN a) now w3).mono fun e w4 ⟨he, k4⟩ => ⟨sbz.id, sbz.g, sbz.tx, sbz.r, sbz.st, sbz.mo, sbz.de, sbz.rs, 1, he, .of_k0 k4, fun m1 => ?_⟩⟩⟩
  refine nn_is rfl ⟨idN i, fun W hW => aI (k4.trans (hW.kk rfl)), nn_is rfl ⟨auN a, fun W hW => aA (k4.trans (hW.kk rfl)), fun W hW => ?_⟩⟩
  have k5 : K0 w3 W := k4.trans (hW.kk rfl)
  clear hW
  refine ⟨(approve0_any (idN i) (nmG g) (auN a) now W).mono fun e w6 ⟨he, k6⟩ => ⟨0, fun _ => 0, ⟨#[]⟩, 0, false, none, 0, 0, ⟨#[]⟩, 0, 0, fun _ => 0, 1, he, .of_k0 k6, fun m3 => ?_⟩⟩
  have K6 := k5.trans k6
  refine nn_is rfl ⟨idN i, fun W hW => aI (K6.trans (hW.kk rfl)), fun W7 hW7 => ?_⟩
  have K7 : K0 w3 W7 := K6.trans (hW7.kk rfl)
  clear hW7
  refine ⟨(holder0_any (idN i) (nmG g) now W7).mono fun e w8 ⟨he, k8⟩ => ⟨fun _ => 0, false, he, .of_k0 k8, fun m4 => ?_⟩⟩
  have K8 := K7.trans k8
  refine nn_is rfl ⟨idN i, fun W hW => aI (K8.trans (hW.kk rfl)), fun W9 hW9 => ?_⟩
  have K9 : K0 w3 W9 := K8.trans (hW9.kk rfl)
  clear hW9
  refine ⟨(get0_any (idN i) (nmG g) W9).mono fun e w10 ⟨he, k10⟩ => ⟨sbz.id, sbz.g, sbz.tx, sbz.r, sbz.st, sbz.mo, sbz.de, sbz.rs, false, he, .of_k0 k10, fun m5 W11 hW11 => ?_⟩⟩
  have K11 : K0 w3 W11 := (K9.trans k10).trans (hW11.kk rfl)
  clear hW11
  have gw : ∀ {wx : World}, K0 w3 wx → GW wx := fun kk => hG.kp (k3.trans kk) (fun h => h)
  refine ⟨(known_any W11 (gw K11)).mono fun e w12 ⟨he, k12⟩ => ⟨true, he, .of_k0 k12, bsp_intro (fun _ => ?_) (fun h => by simp at h)⟩⟩
  have K12 := K11.trans k12
  refine ⟨(setMods0_any (nmG g) none 0 0 w12).mono fun e w13 ⟨he, k13⟩ => ⟨1, he, .of_k0 k13, bsp_intro (fun _ => ?_) (fun h => by simp at h)⟩⟩
  have K13 := K12.trans k13
  refine ⟨(mods0_any (nmG g) w13).mono fun e w14 ⟨he, k14⟩ => ⟨none, 0, 0, he, .of_k0 k14, ?_⟩⟩
  have K14 := K13.trans k14
  refine nn_is rfl ⟨idN i, gimp_intro fun _ => aI K14, now, gimp_intro fun _ => aN K14, bsp_intro (fun _ => ?_) (fun h => by simp at h)⟩
  refine ⟨(submit0_any (idN i) (nmG g) ⟨#[]⟩ now w14).mono fun e w15 ⟨he, k15⟩ => ⟨1, he, .of_k0 k15, ?_⟩⟩
  have K15 := K14.trans k15
  refine nn_is rfl ⟨idN i, gimp_intro fun _ => aI K15, nn_is rfl ⟨auN a, gimp_intro fun _ => aA K15, now, gimp_intro fun _ => aN K15, bsp_intro (fun _ => ?_) (fun h => by simp at h)⟩⟩
  refine ⟨(release0_any (idN i) (nmG g) (auN a) now w15).mono fun e w16 ⟨he, k16⟩ => ⟨1, he, .of_k0 k16, ?_⟩⟩
  have K16 := K15.trans k16
  refine nn_is rfl ⟨idN i, gimp_intro fun _ => aI K16, nn_is rfl ⟨auN a, gimp_intro fun _ => aA K16, now, gimp_intro fun _ => aN K16, bsp_intro (fun _ => ?_) (fun h => by simp at h)⟩⟩
  refine ⟨(reject0_any (idN i) (nmG g) (auN a) ⟨#[]⟩ now w16).mono fun e w17 ⟨he, k17⟩ => ⟨1, he, .of_k0 k17, now, gimp_intro fun _ => aN (K16.trans k17), bsp_intro (fun _ => ?_) (fun h => by simp at h)⟩⟩
  have K17 := K16.trans k17
  refine ⟨(lapse0_any now w17).mono fun e w18 ⟨he, k18⟩ => ⟨none, 0, 0, he, .of_k0 k18, bsp_intro (fun _ => ?_) (fun h => by simp at h)⟩⟩
  have K18 := K17.trans k18
  refine ⟨(list0_any (nmG g) 0 w18 (gw K18)).mono fun e w19 ⟨he, k19⟩ => ⟨none, 0, 0, he, .of_k0 k19, bsp_intro (fun _ => ?_) (fun h => by simp at h)⟩⟩
  have K19 := K18.trans k19
  refine ⟨(count0_any (nmG g) 0 w19 (gw K19)).mono fun e w20 ⟨he, k20⟩ => ⟨0, he, .of_k0 k20, now, gimp_intro fun _ => aN (K19.trans k20), bsp_intro (fun _ => ?_) (fun h => by simp at h)⟩⟩
  have K20 := K19.trans k20
  refine ⟨(forget0_any now w20).mono fun e w21 ⟨he, k21⟩ => ⟨0, he, .of_k0 k21, bsp_intro (fun _ => ?_) (fun h => by simp at h)⟩⟩
  have K21 := K20.trans k21
  refine ⟨(clone0_any w21).mono fun e w22 ⟨he, k22⟩ => ⟨none, he, .of_k0 k22, bsp_intro (fun _ => ?_) (fun h => by simp at h)⟩⟩
  have K22 := K21.trans k22
  exact ⟨(equal0_any w22).mono fun e w23 ⟨he, k23⟩ => ⟨true, he, .of_k0 k23, rfl, k3.trans (K22.trans k23)⟩⟩

end Go.Proofs.YtfacflbmlfbeeaaGreatDoor
