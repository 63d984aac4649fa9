/- The contracts of feedrule's Feed.Reason and Feed.Due, by plain functions. Texts have at most 2^30 bytes. -/
import Derived.Test.YtcpjajjocmpkjaaDoorFeed
import Derived.Test.YtcpjajjocmpkjaaDoorVcReas
namespace Go.Proofs.YtcpjajjocmpkjaaDoor
open Go.RowKit

/-- An item. -/
structure It where
  id : Nat → Int
  gs : List ByteArray
  d : ByteArray
  by_ : Int
  ct : Bool
  fr : ByteArray
  ar : Int
def It.cells (x : It) (p : Option Addr) (c : Nat) : Array Value := (arrI .u8 x.id 32 0 ++ [Value.slice p x.gs.length c, Value.string x.d, Value.int .i64 x.by_, Value.bool x.ct, Value.string x.fr, Value.int .i64 x.ar]).toArray
def It.ok (x : It) : Prop := x.gs.length ≤ 9223372036854775807 ∧ ∀ z ∈ x.gs, z.size ≤ 9223372036854775807
/-- The reasons. -/
def rsnB (nb : ByteArray) (mb : Int) (ds : List ByteArray) (es : List Ent) (x : It) : Nat → Bool
  | 1 => x.fr.toList == nb.toList
  | 2 => !x.ct && !selB es x.gs
  | 3 => !x.ct && mb != 0 && decide (mb < x.by_)
  | 4 => !x.ct && decide ((ds.length : Int) > 0) && !x.d.toList == [] && !Lib.containsS ds x.d
  | _ => false
def rsnS (nb : ByteArray) (mb : Int) (ds : List ByteArray) (es : List Ent) (x : It) : Int :=
  if rsnB nb mb ds es x 1 = true then 1 else if rsnB nb mb ds es x 2 = true then 2 else if rsnB nb mb ds es x 3 = true then 3 else if rsnB nb mb ds es x 4 = true then 4 else 0
/-- What a closure of Reason finds. -/
structure RsSt (D : Nat → Prop) (w : World) (n1 n b : Nat) (x : It) (p : Option Addr) (c : Nat) (nb ps : ByteArray) (mb dl : Int) (ds : List ByteArray) (es : List Ent) : Prop where
  it : w.heap[n1]? = some (.cells (x.cells p c) 39 (0, 0))
  fp : w.heap[n]? = some (.cells #[.pointer (some ⟨b, 0, none⟩)] 31 (0, 0))
  feed : FeedR D w b nb ps mb dl ds es
  gs : StrP w p x.gs
theorem RsSt.kp {D : Nat → Prop} {w w' : World} {n1 n b : Nat} {x : It} {p : Option Addr} {c : Nat} {nb ps : ByteArray} {mb dl : Int} {ds : List ByteArray} {es : List Ent} (h : RsSt D w n1 n b x p c nb ps mb dl ds es) (hk : K0 w w') : RsSt D w' n1 n b x p c nb ps mb dl ds es :=
  ⟨hk.blk h.it (fun h => h), hk.blk h.fp (fun h => h), h.feed.kp hk (fun _ _ _ h => h), h.gs.kp hk (fun _ _ _ h => h)⟩
section
variable {D : Nat → Prop} {w : World} {n1 n b : Nat} {x : It} {p : Option Addr} {c : Nat} {nb ps : ByteArray} {mb dl : Int} {ds : List ByteArray} {es : List Ent} (h : RsSt D w n1 n b x p c nb ps mb dl ds es) include h
theorem reasA_any : Calls Tryd.prog 37 #[.pointer (some ⟨n1, 0, none⟩), .pointer (some ⟨n, 0, none⟩)] w fun e w' => e = .returned (.bool (rsnB nb mb ds es x 1)) ∧ K0 w w' := by
  obtain ⟨p', n', c', lb, h1, h2, h3, h4, h5, h6, h7⟩ := h.feed
  exact vc_reasA n1 0 n 0 w _ ⟨x.fr, cell_at (blk_drew h.it) rfl, some ⟨b, 0, none⟩, cell_at (blk_drew h.fp) rfl, nb, cell_at (blk_drew h1) rfl, rfl, (Kp.refl _ _).drew⟩
theorem reasB_any (h64 : es.length ≤ 64) (h80 : ∀ e ∈ es, e.els.length ≤ 80) (hx : x.ok) : Calls Tryd.prog 38 #[.pointer (some ⟨n1, 0, none⟩), .pointer (some ⟨n, 0, none⟩)] w fun e w' => e = .returned (.bool (rsnB nb mb ds es x 2)) ∧ K0 w w' := by
  obtain ⟨p', n', c', lb, h1, h2, h3, h4, h5, h6, h7⟩ := h.feed
  refine vc_reasB n1 0 n 0 w _ ⟨x.ct, cell_at (blk_drew h.it) rfl, some ⟨b, 0, none⟩, gimp_intro fun _ => cell_at (blk_drew h.fp) rfl, some ⟨lb, 0, none⟩, gimp_intro fun _ => cell_at (blk_drew h1) rfl, p, x.gs.length, c, gimp_intro fun _ => cell_at (blk_drew h.it) rfl, ?_⟩
  refine bsp_intro (fun hc => ?_) (fun hc => ⟨by simp only [rsnB, hc, Bool.false_and], (Kp.refl _ _).drew⟩)
  have hd : K0 w w.drew := (Kp.refl _ _).drew
  refine ⟨(selects_any (h7.kp hd (fun _ _ _ h => h)) h64 h80 p c x.gs (h.gs.kp hd (fun _ _ _ h => h)) hx.1 hx.2).mono fun e w' ⟨he, hk⟩ => ⟨_, he, ?_, hd.trans hk⟩⟩
  simp only [rsnB, hc]
theorem reasC_any : Calls Tryd.prog 40 #[.pointer (some ⟨n1, 0, none⟩), .pointer (some ⟨n, 0, none⟩)] w fun e w' => e = .returned (.bool (rsnB nb mb ds es x 3)) ∧ K0 w w' := by
  obtain ⟨p', n', c', lb, h1, h2, h3, h4, h5, h6, h7⟩ := h.feed
  exact vc_reasC n1 0 n 0 w _ ⟨x.ct, cell_at (blk_drew h.it) rfl, some ⟨b, 0, none⟩, gimp_intro fun _ => cell_at (blk_drew h.fp) rfl, mb, gimp_intro fun _ => cell_at (blk_drew h1) rfl, some ⟨b, 0, none⟩, gimp_intro fun _ => cell_at (blk_drew h.fp) rfl,
    mb, gimp_intro fun _ => cell_at (blk_drew h1) rfl, x.by_, gimp_intro fun _ => cell_at (blk_drew h.it) rfl, rfl, (Kp.refl _ _).drew⟩
theorem reasD_any (hl : ds.length ≤ 1073741824) : Calls Tryd.prog 41 #[.pointer (some ⟨n1, 0, none⟩), .pointer (some ⟨n, 0, none⟩)] w fun e w' => e = .returned (.bool (rsnB nb mb ds es x 4)) ∧ K0 w w' := by
  obtain ⟨p', n', c', lb, h1, h2, h3, h4, h5, h6, h7⟩ := h.feed
  subst h3
  refine vc_reasD n1 0 n 0 w _ ⟨x.ct, cell_at (blk_drew h.it) rfl, some ⟨b, 0, none⟩, gimp_intro fun _ => cell_at (blk_drew h.fp) rfl, p', ds.length, c', gimp_intro fun _ => cell_at (blk_drew h1) rfl, x.d, gimp_intro fun _ => cell_at (blk_drew h.it) rfl,
    some ⟨b, 0, none⟩, gimp_intro fun _ => cell_at (blk_drew h.fp) rfl, p', ds.length, c', gimp_intro fun _ => cell_at (blk_drew h1) rfl, x.d, gimp_intro fun _ => cell_at (blk_drew h.it) rfl, ?_⟩
  have hd : K0 w w.drew := (Kp.refl _ _).drew
  refine bsp_intro (fun hc => ?_) (fun hc => ⟨by simp only [rsnB, hc, Bool.false_and], hd⟩)
  have hpos : 0 < ds.length := by
    simp only [Bool.and_eq_true, decide_eq_true_eq] at hc
    omega
  obtain ⟨b1, o1, rfl, _⟩ := h4 0 ds[0] (List.getElem?_eq_getElem hpos)
  refine ⟨(Tryd.slices_Contains_string b1 o1 ds.length c' ds x.d w.drew (Nat.le_refl _) (by omega) (strP_cells (h4.kp hd (fun _ _ _ h => h)))).mono fun e w' ⟨he, hw⟩ => ⟨_, he, ?_, by rw [hw]; exact hd⟩⟩
  rw [List.take_length]
  simp only [rsnB, hc]
end
theorem okFn_of {P : Program} {f : FuncId} {fn : Func} (h : P.funcs[f]? = some fn) (h1 : (fn.name == "runtime.NumGoroutine") = false) (h2 : fn.body.isNone = false) : okFn P f = true := by simp only [okFn, h, h1, h2]; rfl
theorem appA_two (a b : Value) : appA #[] [] #[a, b] = #[a, b] := by simp [appA]

theorem reason_any {D : Nat → Prop} {w : World} {b : Nat} {x : It} {p : Option Addr} {c : Nat} {nb ps : ByteArray} {mb dl : Int} {ds : List ByteArray} {es : List Ent} (hf : FeedR D w b nb ps mb dl ds es) (hg : StrP w p x.gs) (h64 : es.length ≤ 64) (h80 : ∀ e ∈ es, e.els.length ≤ 80) (hl : ds.length ≤ 1073741824) (hx : x.ok) :
    Calls Tryd.prog 17 #[.pointer (some ⟨b, 0, none⟩), .agg (x.cells p c)] w fun e w' => e = .returned (.int .i64 (rsnS nb mb ds es x)) ∧ K0 w w' := by
  refine vc_reason (some ⟨b, 0, none⟩) (x.cells p c) w _ ?_
  intro n w1 hn n1 w2 hn1
  have hk2 : K0 w w2 := (hn.kp _).trans (hn1.kp _)
  have hb2 := (hn1.kp (fun _ => False)).blk hn.block (fun h => h)
  refine ⟨some ⟨b, 0, none⟩, cell_at hb2 rfl, ?_⟩
  refine bsp_intro (fun h => absurd h (by simp)) (fun _ => fun n2 w3 hn3 => ?_)
  have hk3 : K0 w w3 := hk2.trans (hn3.kp _)
  have hst : RsSt D w3 n1 n b x p c nb ps mb dl ds es := ⟨(hn3.kp (fun _ => False)).blk hn1.block (fun h => h), (hn3.kp (fun _ => False)).blk hb2 (fun h => h), hf.kp hk3 (fun _ _ _ h => h), hg.kp hk3 (fun _ _ _ h => h)⟩
  refine count1 5 (by decide) (fun k w' => (∀ j, j < k → rsnB nb mb ds es x j = false) ∧ K0 w3 w') ⟨fun j hj => by omega, .refl _ _⟩ ?_
  intro I m k w' hk ⟨hno, hkw⟩ next
  have hst' := hst.kp hkw
  have hb' := hkw.blk hn3.block (fun h => h)
  refine bsp_intro (fun hlt => ?_) (fun hge => ?_)
  · have hlt : k < 5 := by simp at hlt; omega
    have e0 : (k : Int).toNat = k := by omega
    refine ⟨⟨by omega, by omega⟩, ?_⟩
    rw [e0]
    -- what follows a closure's answer
    have fin : ∀ (w'' : World), K0 w' w'' → bsp (true && rsnB nb mb ds es x k) (Ending.returned (.int .i64 (k : Int)) = .returned (.int .i64 (rsnS nb mb ds es x)) ∧ K0 w w'') (I [.int .i64 (IntKind.i64.wrap ((k : Int) + 1))] w'' ∧ m [.int .i64 (IntKind.i64.wrap ((k : Int) + 1))] w'' < m [.int .i64 (k : Int)] w') := fun w'' hk'' => by
      refine bsp_intro (fun hr => ⟨?_, hk3.trans (hkw.trans hk'')⟩) (fun hr => next hlt w'' ⟨fun j hj => ?_, hkw.trans hk''⟩)
      · have hr : rsnB nb mb ds es x k = true := by simpa using hr
        congr 2
        obtain rfl | rfl | rfl | rfl | rfl : k = 0 ∨ k = 1 ∨ k = 2 ∨ k = 3 ∨ k = 4 := by omega
        · simp [rsnB] at hr
        · unfold rsnS; rw [if_pos hr]; rfl
        · unfold rsnS; rw [if_neg (by rw [hno 1 (by omega)]; decide), if_pos hr]; rfl
        · unfold rsnS; rw [if_neg (by rw [hno 1 (by omega)]; decide), if_neg (by rw [hno 2 (by omega)]; decide), if_pos hr]; rfl
        · unfold rsnS; rw [if_neg (by rw [hno 1 (by omega)]; decide), if_neg (by rw [hno 2 (by omega)]; decide), if_neg (by rw [hno 3 (by omega)]; decide), if_pos hr]; rfl
      · have hr : rsnB nb mb ds es x k = false := by simpa using hr
        by_cases e : j = k
        · rw [e]; exact hr
        · exact hno j (by omega)
    obtain rfl | rfl | rfl | rfl | rfl : k = 0 ∨ k = 1 ∨ k = 2 ∨ k = 3 ∨ k = 4 := by omega
    · refine ⟨_, cell_at hb' rfl, ?_⟩
      refine bsp_intro (fun h => absurd h (by decide)) (fun _ => next hlt w' ⟨fun j hj => ?_, hkw⟩)
      obtain rfl : j = 0 := by omega
      rfl
    · refine ⟨_, cell_at hb' rfl, bsp_intro (fun _ => ⟨_, _, _, rfl, okFn_of Tryd.func37 (by decide) (by decide), ?_⟩) (fun h => absurd h (by decide))⟩
      rw [appA_two]
      exact ⟨(reasA_any hst').mono fun e w'' ⟨he, hk''⟩ => ⟨_, he, fin w'' hk''⟩⟩
    · refine ⟨_, cell_at hb' rfl, bsp_intro (fun _ => ⟨_, _, _, rfl, okFn_of Tryd.func38 (by decide) (by decide), ?_⟩) (fun h => absurd h (by decide))⟩
      rw [appA_two]
      exact ⟨(reasB_any hst' h64 h80 hx).mono fun e w'' ⟨he, hk''⟩ => ⟨_, he, fin w'' hk''⟩⟩
    · refine ⟨_, cell_at hb' rfl, bsp_intro (fun _ => ⟨_, _, _, rfl, okFn_of Tryd.func40 (by decide) (by decide), ?_⟩) (fun h => absurd h (by decide))⟩
      rw [appA_two]
      exact ⟨(reasC_any hst').mono fun e w'' ⟨he, hk''⟩ => ⟨_, he, fin w'' hk''⟩⟩
    · refine ⟨_, cell_at hb' rfl, bsp_intro (fun _ => ⟨_, _, _, rfl, okFn_of Tryd.func41 (by decide) (by decide), ?_⟩) (fun h => absurd h (by decide))⟩
      rw [appA_two]
      exact ⟨(reasD_any hst' hl).mono fun e w'' ⟨he, hk''⟩ => ⟨_, he, fin w'' hk''⟩⟩
  · have hge : ¬ k < 5 := by simp at hge; omega
    obtain rfl : k = 5 := by omega
    refine ⟨?_, hk3.trans hkw⟩
    unfold rsnS
    rw [if_neg (by rw [hno 1 (by omega)]; decide), if_neg (by rw [hno 2 (by omega)]; decide), if_neg (by rw [hno 3 (by omega)]; decide), if_neg (by rw [hno 4 (by omega)]; decide)]
theorem reasonNil_any (a : Array Value) (w : World) : Calls Tryd.prog 17 #[.pointer none, .agg a] w fun e w' => e = .returned (.int .i64 1) ∧ K0 w w' := by
  refine vc_reason none a w _ ?_
  intro n w1 hn n1 w2 hn1
  have hb2 := (hn1.kp (fun _ => False)).blk hn.block (fun h => h)
  exact ⟨none, cell_at hb2 rfl, rfl, (hn.kp _).trans (hn1.kp _)⟩

/-- When an item is due. -/
def dueS (dl ar : Int) : Int := if 9223372036854775807 - dl < ar then 9223372036854775807 else ar + dl
theorem due_any {D : Nat → Prop} {w : World} {b : Nat} {x : It} {p : Option Addr} {c : Nat} {nb ps : ByteArray} {mb dl : Int} {ds : List ByteArray} {es : List Ent} (hf : FeedR D w b nb ps mb dl ds es) (hg : StrP w p x.gs) (h64 : es.length ≤ 64) (h80 : ∀ e ∈ es, e.els.length ≤ 80) (hl : ds.length ≤ 1073741824) (hx : x.ok)
    (hdl : 0 ≤ dl ∧ dl ≤ 20160) (har : -9223372036854775808 ≤ x.ar ∧ x.ar ≤ 9223372036854775807) :
    Calls Tryd.prog 16 #[.pointer (some ⟨b, 0, none⟩), .agg (x.cells p c)] w fun e w' =>
      e = .returned (if rsnS nb mb ds es x = 0 then .tuple #[.int .i64 (dueS dl x.ar), .bool true] else .tuple #[.int .i64 0, .bool false]) ∧ K0 w w' := by
  refine vc_due (some ⟨b, 0, none⟩) (x.cells p c) w _ ?_
  intro n w1 hn
  have hk1 : K0 w w1 := hn.kp _
  refine ⟨x.id, p, x.gs.length, c, x.d, x.by_, x.ct, x.fr, x.ar, AtL_block hn.block rfl, ?_⟩
  refine ⟨(reason_any (x := x) (p := p) (c := c) (hf.kp hk1 (fun _ _ _ h => h)) (hg.kp hk1 (fun _ _ _ h => h)) h64 h80 hl hx).mono fun e w2 ⟨he, hk2⟩ => ⟨_, he, ?_⟩⟩
  have hk12 : K0 w w2 := hk1.trans hk2
  refine bsp_intro (fun h => ?_) (fun h => ?_)
  · have h : rsnS nb mb ds es x ≠ 0 := by simpa using h
    exact ⟨by rw [if_neg h], hk12⟩
  have h : rsnS nb mb ds es x = 0 := by simpa using h
  have hb2 := hk2.blk hn.block (fun h => h)
  obtain ⟨p', n', c', lb, h1, h2, h3, h4, h5, h6, h7⟩ := hf.kp hk12 (fun _ _ _ h => h)
  refine ⟨x.ar, cell_at (blk_drew hb2) rfl, dl, cell_at (blk_drew h1) rfl, ?_⟩
  rw [wr64 (x := 9223372036854775807 - dl) (by omega) (by omega)]
  refine bsp_intro (fun hd => ⟨?_, hk12.drew⟩) (fun hd => ⟨x.ar, cell_at (blk_drew (blk_drew hb2)) rfl, dl, cell_at (blk_drew (blk_drew h1)) rfl, ?_, hk12.drew.drew⟩)
  · have hd : 9223372036854775807 - dl < x.ar := by simpa using hd
    rw [if_pos h]; unfold dueS; rw [if_pos hd]
  · have hd : ¬ 9223372036854775807 - dl < x.ar := by simpa using hd
    rw [wr64 (by omega) (by omega), if_pos h]; unfold dueS; rw [if_neg hd]

end Go.Proofs.YtcpjajjocmpkjaaDoor
