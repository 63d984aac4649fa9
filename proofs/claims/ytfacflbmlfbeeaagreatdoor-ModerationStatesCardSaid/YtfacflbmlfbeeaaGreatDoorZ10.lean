/- Chapter 39, plain: each operation keeps the two queues alike. -/
import Derived.Test.YtfacflbmlfbeeaaGreatDoorZ09
import Derived.Test.YtfacflbmlfbeeaaGreatDoorZ06
import Derived.Test.YtfacflbmlfbeeaaGreatDoorZ08
import Derived.Test.YtfacflbmlfbeeaaGreatDoorProg
import Derived.Test.YtfacflbmlfbeeaaGreatDoorZ02
import Derived.Test.YtfacflbmlfbeeaaGreatDoorZ04
import Derived.Test.YtfacflbmlfbeeaaGreatDoorZ03
import Derived.KernelRfl
import Derived.Test.YtfacflbmlfbeeaaGreatDoorZ07
namespace Go.Proofs.YtfacflbmlfbeeaaGreatDoor
open Go.RowKit Go.Sort Go.Maps

theorem idB_of {f g : Nat → Int} (h : idI f = idI g) : idB f = idB g := congrArg (List.map fun x : Int => x.toNat.toUInt8) h
theorem cfM_congr {x x' y y' : Sb} (hx : x.ky = x'.ky) (hxr : x.r = x'.r) (hy : y.ky = y'.ky) (hyr : y.r = y'.r) : cfM x y = cfM x' y' := by
  unfold Sb.ky at hx hy
  obtain ⟨a1, a2⟩ := Prod.mk.inj hx
  obtain ⟨b1, b2⟩ := Prod.mk.inj hy
  unfold cfM cfT cfI
  rw [hxr, hyr, a2, b2, idB_of a1, idB_of b1]
theorem Rq.map {n : Nat} {q q' : Qu} {M : Mo} (h : Rq n q M) {G : En → En} (hG : ∀ y ∈ M.es, (G y).s.ky = y.s.ky ∧ (G y).s.r = y.s.r ∧ ((G y).le = true → (G y).s.st = 0)) (ho : q'.OK) (hr : q'.room = q.room) (hd : q'.days = q.days) (hm : q'.ms = q.ms)
    (hqd : q'.es.Pairwise fun p r => p.1 ≠ r.1) (hes : ∀ k, aget q'.es k = (aget q.es k).map G) : Rq n q' { M with es := M.es.map G } := by
  have hdis : DisK (M.es.map G) := List.pairwise_map.2 (h.dis.imp_of_mem fun {a b} ha hb hab e => hab (by rw [← (hG a ha).1, ← (hG b hb).1]; exact e))
  exact {
    qo := ho
    room := by rw [hr]; exact h.room
    days := by rw [hd]; exact h.days
    qd := hqd
    dis := hdis
    fd := fun k => opt_ext fun e => by
      rw [hes k, fd_iff hdis, ← h.fd k]
      constructor
      · rintro ⟨he, hk⟩
        obtain ⟨x, hx, rfl⟩ := List.mem_map.1 he
        rw [(hG x hx).1] at hk
        rw [(fd_iff h.dis).2 ⟨hx, hk⟩]; rfl
      · intro he
        obtain ⟨x, hx, rfl⟩ := Option.map_eq_some_iff.1 he
        obtain ⟨h1, h2⟩ := (fd_iff h.dis).1 hx
        exact ⟨List.mem_map.2 ⟨x, h1, rfl⟩, by rw [(hG x h1).1]; exact h2⟩
    srt := List.pairwise_map.2 (h.srt.imp_of_mem fun {a b} ha hb hab => by
      rw [cfM_congr (hG a ha).1 (hG a ha).2.1 (hG b hb).1 (hG b hb).2.1]; exact hab)
    ms := fun g => by
      have : q'.md g = q.md g := by unfold Qu.md; rw [hm]
      rw [this]; exact h.ms g
    gs := h.gs
    gl := h.gl
    el := by show (M.es.map G).length ≤ n; rw [List.length_map]; exact h.el
    le := fun x hx hl => by
      obtain ⟨y, hy, rfl⟩ := List.mem_map.1 hx
      exact (hG y hy).2.2 hl }
theorem Rq.up {n : Nat} {q : Qu} {M : Mo} (h : Rq n q M) {k : Ky} {u v : En} {f : En → En} {wt : Int} (hu : aget q.es k = some u) (hf : f u = v) (hky : v.s.ky = u.s.ky) (hr : v.s.r = u.s.r) (hle : v.le = true → v.s.st = 0) (hq : ({ q with es := aset q.es k v, wt := wt } : Qu).OK) :
    Rq n { q with es := aset q.es k v, wt := wt } (M.up k f) := by
  have huk : u.s.ky = k := ((fd_iff h.dis).1 ((h.fd k).trans hu)).2
  have hy1 : ∀ y ∈ M.es, y.s.ky = k → y = u := fun y hy e => by
    have := h.get hy
    rw [e, hu] at this
    cases this; rfl
  refine h.map (G := fun y => if y.s.ky = k then f y else y) (fun y hy => ?_) hq rfl rfl rfl (aset_dis h.qd k v) (fun c => ?_)
  · split
    · rename_i e
      cases hy1 y hy e
      rw [hf]
      exact ⟨hky, hr, hle⟩
    · exact ⟨rfl, rfl, h.le y hy⟩
  · show aget (aset q.es k v) c = _
    rw [aget_aset]
    split
    · rename_i e
      subst e
      rw [hu]
      show _ = some (if u.s.ky = k then f u else u)
      rw [if_pos huk, hf]
    · rename_i e
      cases hc : aget q.es c with
      | none => rfl
      | some x =>
        have := ((fd_iff h.dis).1 ((h.fd c).trans hc)).2
        show some x = some (if x.s.ky = k then f x else x)
        rw [if_neg (fun e2 => e (by rw [← e2, this]))]
theorem Rq.filt {n : Nat} {q q' : Qu} {M : Mo} (h : Rq n q M) {P : En → Bool} (ho : q'.OK) (hr : q'.room = q.room) (hd : q'.days = q.days) (hm : q'.ms = q.ms)
    (hqd : q'.es.Pairwise fun p r => p.1 ≠ r.1) (hes : ∀ k, aget q'.es k = (aget q.es k).filter P) : Rq n q' { M with es := M.es.filter P } := by
  have hdis : DisK (M.es.filter P) := h.dis.sublist List.filter_sublist
  exact {
    qo := ho
    room := by rw [hr]; exact h.room
    days := by rw [hd]; exact h.days
    qd := hqd
    dis := hdis
    fd := fun k => opt_ext fun e => by
      rw [hes k, fd_iff hdis, ← h.fd k, List.mem_filter, Option.filter_eq_some_iff, fd_iff h.dis]
      constructor
      · rintro ⟨⟨a, b⟩, c⟩; exact ⟨⟨a, c⟩, b⟩
      · rintro ⟨⟨a, c⟩, b⟩; exact ⟨⟨a, b⟩, c⟩
    srt := h.srt.sublist List.filter_sublist
    ms := fun g => by
      have : q'.md g = q.md g := by unfold Qu.md; rw [hm]
      rw [this]; exact h.ms g
    gs := h.gs
    gl := h.gl
    el := Nat.le_trans (List.length_filter_le _ _) h.el
    le := fun x hx hl => h.le x (List.mem_filter.1 hx).1 hl }

/-! ### Submit -/
theorem cfE_ord : Ord3 fun x y : En => cfM x.s y.s := ⟨fun _ _ => cfM_ord.anti _ _, fun _ _ _ => cfM_ord.tlt _ _ _, fun _ _ _ => cfM_ord.el _ _ _, fun _ _ _ => cfM_ord.le _ _ _⟩
def xsubE (M : Mo) (id : Nat → Int) (g tx : ByteArray) (now : Int) : Int := if minB now = false then 2 else if gnE g ≠ 0 then gnE g else if 65536 < tx.size then 5 else if (M.md g).l.length = 0 then 33 else if (M.fd (idI id, g)).isSome = true then 7 else if M.room ≤ ((M.ls ⟨#[]⟩ 0).length : Nat) then 9 else 0
theorem Rq.subE {n : Nat} {q : Qu} {M : Mo} (h : Rq n q M) (id : Nat → Int) (g tx : ByteArray) (now : Int) : subE q id g tx now = xsubE M id g tx now := by
  unfold Go.Proofs.YtfacflbmlfbeeaaGreatDoor.subE xsubE
  have e : M.fd (idI id, g) = aget q.es (idI id, g) := h.fd _
  rw [e, h.ms, h.room, ← h.wt]
theorem Rq.ins {n : Nat} {q : Qu} {M : Mo} (h : Rq n q M) {id : Nat → Int} {g tx : ByteArray} {now : Int} (hid : BY id ∧ NZ 32 id) {L : List En} (h0 : xsubE M id g tx now = 0)
    (hp : L.Perm (newE id g tx now :: M.es)) (hs : L.Pairwise fun x y => cfM x.s y.s < 0) : Rq (n + 1) (subQ q id g tx now) { M with es := L } := by
  have h0q := (h.subE id g tx now).trans h0
  have hok := h.qo.sub (g := g) (tx := tx) (now := now) hid
  have hno : aget q.es (idI id, g) = none := by
    unfold Go.Proofs.YtfacflbmlfbeeaaGreatDoor.subE at h0q
    repeat' (split at h0q; · first | contradiction | omega)
    rename_i h7 _
    cases ha : aget q.es (idI id, g) with
    | none => rfl
    | some x => rw [ha] at h7; exact absurd rfl h7
  have eq : subQ q id g tx now = { q with es := aset q.es (idI id, g) (newE id g tx now), wt := q.wt + 1 } := by unfold subQ; rw [if_pos h0q]
  have hky : (newE id g tx now).s.ky = (idI id, g) := rfl
  have hnk : ∀ y ∈ M.es, y.s.ky ≠ (idI id, g) := fun y hy e => by
    have := h.get hy
    rw [e, hno] at this; cases this
  have hdis : DisK L := by
    refine (hp.pairwise_iff (R := fun x y : En => x.s.ky ≠ y.s.ky) (fun {a b} hab e => hab e.symm)).2 (List.pairwise_cons.2 ⟨fun y hy e => hnk y hy (by rw [← e]; exact hky), h.dis⟩)
  rw [eq] at hok ⊢
  exact {
    qo := hok
    room := h.room
    days := h.days
    qd := aset_dis h.qd _ _
    dis := hdis
    fd := fun k => opt_ext fun e => by
      show fdL L k = some e ↔ aget (aset q.es (idI id, g) (newE id g tx now)) k = some e
      rw [fd_iff hdis, aget_aset, hp.mem_iff, List.mem_cons]
      by_cases hk : (idI id, g) = k
      · rw [if_pos hk]
        subst hk
        constructor
        · rintro ⟨rfl | hm, he⟩
          · rfl
          · exact absurd he (hnk e hm)
        · intro he; cases he; exact ⟨.inl rfl, rfl⟩
      · rw [if_neg hk, ← h.fd k, fd_iff h.dis]
        constructor
        · rintro ⟨rfl | hm, he⟩
          · exact absurd he hk
          · exact ⟨hm, he⟩
        · rintro ⟨hm, he⟩; exact ⟨.inr hm, he⟩
    srt := hs
    ms := h.ms
    gs := h.gs
    gl := Nat.le_succ_of_le h.gl
    el := by show L.length ≤ n + 1; rw [hp.length_eq, List.length_cons]; have := h.el; omega
    le := fun x hx hl => by
      rcases List.mem_cons.1 (hp.subset hx) with rfl | hx
      · cases hl
      · exact h.le x hx hl }
theorem Rq.sub_no {n : Nat} {q : Qu} {M : Mo} (h : Rq n q M) {id : Nat → Int} {g tx : ByteArray} {now : Int} (h0 : xsubE M id g tx now ≠ 0) : Rq (n + 1) (subQ q id g tx now) M := by
  have h0q : Go.Proofs.YtfacflbmlfbeeaaGreatDoor.subE q id g tx now ≠ 0 := by rw [h.subE]; exact h0
  have : subQ q id g tx now = q := by unfold subQ; rw [if_neg h0q]
  rw [this]
  exact h.mono (by omega)

/-! ### Claim -/
theorem Rq.clE {n : Nat} {q : Qu} {M : Mo} (h : Rq n q M) (g : ByteArray) (a : Nat → Int) (now : Int) : clmE q g a now = xclE M g a now := by
  unfold clmE xclE
  rw [h.ism]
  have h1 := (h.sel (clP g (auI a) now)).length_eq
  have e : (isSel q g (auI a) now).length = ((M.es.filter (clP g (auI a) now)).map (·.s)).length := h1
  rw [e, List.length_map]
  cases hf : M.es.find? (clP g (auI a) now) with
  | none =>
    have : M.es.filter (clP g (auI a) now) = [] := List.filter_eq_nil_iff.2 fun x hx hc => by
      have := List.find?_eq_none.1 hf x hx
      rw [hc] at this; exact this rfl
    rw [this]
    simp
  | some x =>
    have hm := List.mem_of_find?_eq_some hf
    have hx := List.find?_some hf
    have h0 : (M.es.filter (clP g (auI a) now)).length ≠ 0 := fun e => by
      have := List.eq_nil_of_length_eq_zero e
      have hmm := List.mem_filter.2 ⟨hm, hx⟩
      rw [this] at hmm; cases hmm
    rw [if_neg (c := (M.es.filter (clP g (auI a) now)).length = 0) h0]
theorem find_first {α : Type} {P : α → Bool} : ∀ {l : List α} {x : α}, l.find? P = some x → ∃ t, l.filter P = x :: t
  | a :: l, x, h => by
    rw [List.find?_cons] at h
    rw [List.filter_cons]
    split at h
    · rename_i hp
      cases h
      rw [if_pos hp]; exact ⟨_, rfl⟩
    · rename_i hp
      rw [if_neg (by rw [hp]; decide)]
      exact find_first h
theorem Rq.clm {n : Nat} {q : Qu} {M : Mo} (h : Rq n q M) {g : ByteArray} {a : Nat → Int} (ha : BY a ∧ NZ 16 a) {now : Int} (h0 : xclE M g a now = 0) {x : Sb} (hx : x ∈ isSel q g (auI a) now) (hmin : ∀ y ∈ isSel q g (auI a) now, ¬ cfM y x < 0) :
    x = xclS M g a now ∧ Rq n { q with es := aset q.es x.ky ⟨x, true, a, now⟩ } (xclM M g a now) := by
  have hmn : minB now = true := by
    unfold xclE at h0
    split at h0
    · cases h0
    · rename_i h1; simpa using h1
  have hn := minB_iff.1 hmn
  cases hf : M.es.find? (clP g (auI a) now) with
  | none =>
    unfold xclE at h0
    rw [hf, if_neg (by rw [hmn]; decide)] at h0
    split at h0 <;> cases h0
  | some e =>
    have eS : xclS M g a now = e.s := by unfold xclS; rw [if_pos h0, hf]; rfl
    have em := List.mem_of_find?_eq_some hf
    have ep := List.find?_some hf
    obtain ⟨t, ht⟩ := find_first hf
    have hsel := h.sel (clP g (auI a) now)
    rw [ht] at hsel
    have hxe : x = e.s := by
      have h1 : x ∈ (e :: t).map (·.s) := hsel.subset hx
      obtain ⟨y, hy, rfl⟩ := List.mem_map.1 h1
      rcases List.mem_cons.1 hy with rfl | hy
      · rfl
      · have hs2 : (e :: t).Pairwise fun x y => cfM x.s y.s < 0 := by rw [← ht]; exact h.srt.sublist List.filter_sublist
        exact absurd ((List.pairwise_cons.1 hs2).1 y hy) (hmin e.s (hsel.symm.subset (List.mem_map.2 ⟨e, List.mem_cons_self, rfl⟩)))
    subst hxe
    refine ⟨eS.symm, ?_⟩
    have hst : e.s.st = 0 := by unfold clP at ep; simp at ep; exact ep.1.2
    have eM : xclM M g a now = M.up e.s.ky (fun y => ⟨y.s, true, a, now⟩) := by unfold xclM; rw [if_pos h0, eS]
    rw [eM]
    exact h.up (f := fun y => ⟨y.s, true, a, now⟩) (v := ⟨e.s, true, a, now⟩) (h.get em) rfl rfl rfl (fun _ => hst) (h.qo.clm h.qd hx ha hn)

/-! ### Release -/
theorem Rq.en {n : Nat} {q : Qu} {M : Mo} (h : Rq n q M) (k : Ky) : M.fd k = aget q.es k := h.fd k
theorem en_some {q : Qu} {k : Ky} {u : En} (h : aget q.es k = some u) : q.en k = u := by unfold Qu.en; rw [h]; rfl
theorem Rq.rlE {n : Nat} {q : Qu} {M : Mo} (h : Rq n q M) (id : Nat → Int) (g : ByteArray) (a : Nat → Int) (now : Int) : relE q id g a now = xrlE M (idI id, g) a now := by
  unfold relE xrlE
  rw [h.en]
  cases hg : aget q.es (idI id, g) with
  | none => simp
  | some u => rw [en_some hg]; simp
theorem Rq.rel {n : Nat} {q : Qu} {M : Mo} (h : Rq n q M) (id : Nat → Int) (g : ByteArray) (a : Nat → Int) (now : Int) : Rq n (relQ q id g a now) (xrlM M (idI id, g) a now) := by
  unfold relQ xrlM
  rw [← h.rlE]
  split
  · rename_i h0
    unfold relE at h0
    split at h0
    · cases h0
    split at h0
    · cases h0
    rename_i hc
    rw [not_or] at hc
    cases hg : aget q.es (idI id, g) with
    | none => rw [hg] at hc; exact absurd rfl hc.1
    | some u =>
      rw [en_some hg] at hc ⊢
      have ho := h.qo.es _ _ hg
      exact h.up (wt := q.wt) (f := fun y => plainE y.s) (v := plainE u.s) hg rfl rfl rfl (fun hl => by cases hl) (h.qo.put (v := plainE u.s) hg rfl ⟨⟨ho.1.s, by0, fun _ _ => rfl, ⟨by show (0 : Int) ≤ 0; decide, by show (0 : Int) ≤ _; decide⟩⟩, ho.2⟩)
  · exact h

/-! ### Decide -/
noncomputable def xdcE (M : Mo) (id : Nat → Int) (g : ByteArray) (a : Nat → Int) (st : Int) (rs : ByteArray) (now : Int) : Int :=
  if minB now = false then 2 else if st = 2 ∧ 200 < rs.size then 5 else if st = 2 ∧ prtB rs = false then 6 else if isMB (M.md g) a = false then 20 else match M.fd (idI id, g) with
  | none => 8
  | some y => if y.s.st ≠ 0 then 10 else if blk y (auI a) now = true then 25 else 0
noncomputable def xdcM (M : Mo) (id : Nat → Int) (g : ByteArray) (a : Nat → Int) (st : Int) (rs : ByteArray) (now : Int) : Mo := if xdcE M id g a st rs now = 0 then M.up (idI id, g) (fun y => plainE (finS39 y.s a now st rs)) else M
theorem Rq.dcE {n : Nat} {q : Qu} {M : Mo} (h : Rq n q M) (id : Nat → Int) (g : ByteArray) (a : Nat → Int) (st : Int) (rs : ByteArray) (now : Int) : xdcE M id g a st rs now = if minB now = false then 2 else if st = 2 ∧ 200 < rs.size then 5 else if st = 2 ∧ prtB rs = false then 6 else decE q id g a now := by
  unfold xdcE decE
  rw [h.en, h.ism]
  cases hg : aget q.es (idI id, g) with
  | none => simp
  | some u => rw [en_some hg]; simp
theorem Rq.apE {n : Nat} {q : Qu} {M : Mo} (h : Rq n q M) (id : Nat → Int) (g : ByteArray) (a : Nat → Int) (now : Int) : apE q id g a now = xdcE M id g a 1 ⟨#[]⟩ now := by
  rw [h.dcE]
  unfold Go.Proofs.YtfacflbmlfbeeaaGreatDoor.apE
  simp
theorem Rq.rjE {n : Nat} {q : Qu} {M : Mo} (h : Rq n q M) (id : Nat → Int) (g : ByteArray) (a : Nat → Int) (rs : ByteArray) (now : Int) : rejE q id g a rs now = xdcE M id g a 2 rs now := by
  rw [h.dcE]
  unfold rejE
  simp
theorem Rq.dec {n : Nat} {q : Qu} {M : Mo} (h : Rq n q M) {id : Nat → Int} {g : ByteArray} {a : Nat → Int} (ha : BY a ∧ NZ 16 a) {st : Int} (hst : 1 ≤ st ∧ st ≤ 3) {rs : ByteArray} (hr : rs.size ≤ 200) {now : Int} (h0 : xdcE M id g a st rs now = 0) :
    Rq n (decQ q id g a now st rs) (M.up (idI id, g) (fun y => plainE (finS39 y.s a now st rs))) := by
  have h0' := h0
  rw [h.dcE] at h0'
  have hmn : minB now = true := by
    split at h0'
    · cases h0'
    · rename_i h1; simpa using h1
  have hn := minB_iff.1 hmn
  have hd : decE q id g a now = 0 := by
    repeat' (split at h0'; · cases h0')
    exact h0'
  unfold decQ
  rw [if_pos hd]
  have hd' := hd
  unfold decE at hd'
  split at hd'
  · cases hd'
  split at hd'
  · cases hd'
  rename_i h8
  split at hd'
  · cases hd'
  rename_i h10
  cases hg : aget q.es (idI id, g) with
  | none => rw [hg] at h8; exact absurd rfl h8
  | some u =>
    rw [en_some hg] at h10 ⊢
    have hs0 : u.s.st = 0 := by simpa using h10
    have hk : u.s.ky = (idI id, g) := ((h.qo.es _ _ hg).2.1).symm
    have hf := h.qo.fin hg hs0 ha hn hst hr
    have e : finQ q (finS39 u.s a now st rs) = { q with es := aset q.es (idI id, g) (plainE (finS39 u.s a now st rs)), wt := q.wt - 1 } := by
      unfold finQ
      have : (finS39 u.s a now st rs).ky = u.s.ky := rfl
      rw [this, hk]
    rw [e] at hf ⊢
    exact h.up (f := fun y => plainE (finS39 y.s a now st rs)) (v := plainE (finS39 u.s a now st rs)) hg rfl rfl rfl (fun hl => by cases hl) hf
theorem Rq.ap {n : Nat} {q : Qu} {M : Mo} (h : Rq n q M) {id : Nat → Int} {g : ByteArray} {a : Nat → Int} (ha : BY a ∧ NZ 16 a) {now : Int} : Rq n (apQ q id g a now 1 ⟨#[]⟩) (xdcM M id g a 1 ⟨#[]⟩ now) := by
  unfold xdcM apQ
  split
  · rename_i h1
    have : xdcE M id g a 1 ⟨#[]⟩ now = 2 := by unfold xdcE; rw [if_pos h1]
    rw [this]
    exact h
  · rename_i h1
    split
    · rename_i h0
      exact h.dec ha ⟨by decide, by decide⟩ (by decide) h0
    · rename_i h0
      have : decE q id g a now ≠ 0 := fun e => h0 (by rw [h.dcE, if_neg h1, if_neg (by simp), if_neg (by simp)]; exact e)
      unfold decQ
      rw [if_neg this]; exact h
theorem Rq.rj {n : Nat} {q : Qu} {M : Mo} (h : Rq n q M) {id : Nat → Int} {g : ByteArray} {a : Nat → Int} (ha : BY a ∧ NZ 16 a) {rs : ByteArray} {now : Int} : Rq n (rejQ q id g a rs now) (xdcM M id g a 2 rs now) := by
  unfold xdcM rejQ
  by_cases h1 : minB now = false
  · rw [if_pos h1, if_neg (by unfold xdcE; rw [if_pos h1]; decide)]; exact h
  rw [if_neg h1]
  by_cases h2 : 200 < rs.size
  · rw [if_pos h2, if_neg (by unfold xdcE; rw [if_neg h1, if_pos ⟨rfl, h2⟩]; decide)]; exact h
  rw [if_neg h2]
  by_cases h3 : prtB rs = false
  · rw [if_pos h3, if_neg (by unfold xdcE; rw [if_neg h1, if_neg (fun e => h2 e.2), if_pos ⟨rfl, h3⟩]; decide)]; exact h
  rw [if_neg h3]
  split
  · rename_i h0
    exact h.dec ha ⟨by decide, by decide⟩ (by omega) h0
  · rename_i h0
    have : decE q id g a now ≠ 0 := fun e => h0 (by rw [h.dcE, if_neg h1, if_neg (fun e => h2 e.2), if_neg (fun e => h3 e.2)]; exact e)
    unfold decQ
    rw [if_neg this]; exact h

/-! ### Lapse -/
theorem nodup_ky {es : List En} (h : DisK es) (P : En → Bool) : (((es.filter P).map (·.s)).map Sb.ky).Nodup := by
  rw [List.map_map]
  exact List.pairwise_map.2 (h.sublist List.filter_sublist)
open Classical in
theorem finA_ok {now : Int} (hn : 0 ≤ now ∧ now ≤ 105190559) : ∀ (L : List Sb) (q : Qu), q.OK → (q.es.Pairwise fun p r => p.1 ≠ r.1) → (L.map Sb.ky).Nodup → (∀ x ∈ L, ∃ u, aget q.es x.ky = some u ∧ u.s = x ∧ u.s.st = 0) →
    (finA now q L).OK ∧ ((finA now q L).es.Pairwise fun p r => p.1 ≠ r.1) ∧ (finA now q L).room = q.room ∧ (finA now q L).days = q.days ∧ ∀ c, aget (finA now q L).es c = if c ∈ L.map Sb.ky then (aget q.es c).map (fun u => plainE (fin3 now u.s)) else aget q.es c
  | [], q, ho, hd, _, _ => ⟨ho, hd, rfl, rfl, fun c => by rw [if_neg (by simp)]; rfl⟩
  | x :: L, q, ho, hd, hN, hx => by
    obtain ⟨u, hu, hux, hu0⟩ := hx x List.mem_cons_self
    have hN2 := List.nodup_cons.1 hN
    have h1 : (finQ q (fin3 now x)).OK := by
      rw [← hux]
      exact ho.fin hu hu0 ⟨by0, fun _ _ => rfl⟩ hn ⟨by decide, by decide⟩ (by decide)
    have hk : (fin3 now x).ky = x.ky := rfl
    have hes : (finQ q (fin3 now x)).es = aset q.es x.ky (plainE (fin3 now x)) := rfl
    have hd1 : (finQ q (fin3 now x)).es.Pairwise fun p r => p.1 ≠ r.1 := by rw [hes]; exact aset_dis hd _ _
    have hget : ∀ c, c ≠ x.ky → aget (finQ q (fin3 now x)).es c = aget q.es c := fun c hc => by
      rw [hes, aget_aset, if_neg (fun e => hc e.symm)]
    obtain ⟨r1, r2, r3, r4, r5⟩ := finA_ok hn L (finQ q (fin3 now x)) h1 hd1 hN2.2 (fun y hy => by
      have : y.ky ≠ x.ky := fun e => hN2.1 (by rw [← e]; exact List.mem_map.2 ⟨y, hy, rfl⟩)
      rw [hget _ this]
      exact hx y (List.mem_cons_of_mem _ hy))
    refine ⟨r1, r2, r3, r4, fun c => ?_⟩
    have : finA now q (x :: L) = finA now (finQ q (fin3 now x)) L := rfl
    rw [this, r5 c]
    by_cases hc : c = x.ky
    · subst hc
      have e1 : x.ky ∉ L.map Sb.ky := hN2.1
      rw [if_neg e1, if_pos (by rw [List.map_cons]; exact List.mem_cons_self), hes, aget_aset, if_pos rfl, hu]
      show _ = some (plainE (fin3 now u.s))
      rw [hux]
    · rw [hget c hc]
      have : (c ∈ List.map Sb.ky (x :: L)) ↔ c ∈ L.map Sb.ky := by
        rw [List.map_cons, List.mem_cons]
        exact ⟨fun h => h.resolve_left hc, .inr⟩
      by_cases hm : c ∈ L.map Sb.ky
      · rw [if_pos hm, if_pos (this.2 hm)]
      · rw [if_neg hm, if_neg (fun e => hm (this.1 e))]
theorem Rq.lap {n : Nat} {q : Qu} {M : Mo} (h : Rq n q M) {now : Int} (hmn : minB now = true) {L : List Sb} (hp : L.Perm (selE (lapP (now - q.days * 1440)) q.es)) (hs : L.Pairwise fun x y => ¬ cfM y x < 0) :
    L.map (fin3 now) = xlpL M now ∧ Rq n (finA now q L) (xlpM M now) := by
  have hL := h.uniq hp hs
  have hn := minB_iff.1 hmn
  have hwp : ∀ x ∈ L, ∃ u, u ∈ M.es ∧ lapP (now - q.days * 1440) u = true ∧ u.s = x := fun x hx => by
    rw [hL] at hx
    obtain ⟨u, hu, rfl⟩ := List.mem_map.1 hx
    exact ⟨u, (List.mem_filter.1 hu).1, (List.mem_filter.1 hu).2, rfl⟩
  refine ⟨?_, ?_⟩
  · unfold xlpL
    rw [if_pos hmn, hL, List.map_map, h.days]
    rfl
  obtain ⟨r1, r2, r3, r4, r5⟩ := finA_ok hn L q h.qo h.qd (by rw [hL]; exact nodup_ky h.dis _) (fun x hx => by
    obtain ⟨u, hu, hl, rfl⟩ := hwp x hx
    refine ⟨u, h.get hu, rfl, ?_⟩
    unfold lapP at hl
    simp at hl
    exact hl.1)
  unfold xlpM
  rw [if_pos hmn]
  refine h.map (fun y hy => ?_) r1 r3 r4 (finA_ms now L q) r2 (fun c => ?_)
  · unfold lpF
    split
    · exact ⟨rfl, rfl, fun hl => by cases hl⟩
    · exact ⟨rfl, rfl, h.le y hy⟩
  · rw [r5 c]
    cases hc : aget q.es c with
    | none => simp
    | some u =>
      have hm := (fd_iff h.dis).1 ((h.fd c).trans hc)
      have : c ∈ L.map Sb.ky ↔ lapP (now - M.days * 1440) u = true := by
        rw [h.days]
        constructor
        · intro hcm
          obtain ⟨x, hx, hxc⟩ := List.mem_map.1 hcm
          obtain ⟨v, hv, hl, rfl⟩ := hwp x hx
          have := h.get hv
          rw [hxc, hc] at this
          cases this
          exact hl
        · intro hl
          refine List.mem_map.2 ⟨u.s, ?_, hm.2⟩
          rw [hL]
          exact List.mem_map.2 ⟨u, List.mem_filter.2 ⟨hm.1, hl⟩, rfl⟩
      show _ = some (lpF (now - M.days * 1440) now u)
      unfold lpF
      by_cases hl : lapP (now - M.days * 1440) u = true
      · rw [if_pos hl, if_pos (this.2 hl)]; rfl
      · rw [if_neg hl, if_neg (fun e => hl (this.1 e))]

/-! ### Forget -/
open Classical in
theorem delA_ok : ∀ (L : List Sb) (q : Qu), q.OK → (q.es.Pairwise fun p r => p.1 ≠ r.1) → (∀ x ∈ L, ∀ u, aget q.es x.ky = some u → u.s.st ≠ 0) →
    (delA q L).OK ∧ ((delA q L).es.Pairwise fun p r => p.1 ≠ r.1) ∧ (delA q L).room = q.room ∧ (delA q L).days = q.days ∧ (delA q L).ms = q.ms ∧ ∀ c, aget (delA q L).es c = if c ∈ L.map Sb.ky then none else aget q.es c
  | [], q, ho, hd, _ => ⟨ho, hd, rfl, rfl, rfl, fun c => by rw [if_neg (by simp)]; rfl⟩
  | x :: L, q, ho, hd, hx => by
    have hget : ∀ c, aget (adel q.es x.ky) c = if x.ky = c then none else aget q.es c := fun c => aget_adel _ _ _
    have hd1 : (adel q.es x.ky).Pairwise fun p r => p.1 ≠ r.1 := hd.sublist List.filter_sublist
    have ho1 : ({ q with es := adel q.es x.ky } : Qu).OK := by
      refine ⟨ho.room, ho.days, ?_, ho.ms, fun k y hy => ?_⟩
      · show q.wt = _
        rw [ho.wt]
        congr 2
        show _ = (adel q.es x.ky).filter _
        unfold adel
        rw [List.filter_filter]
        refine List.filter_congr fun p hp => ?_
        by_cases hk : p.1 = x.ky
        · have hg : aget q.es x.ky = some p.2 := aget_at hd (by rw [← hk]; exact hp)
          have := hx x List.mem_cons_self p.2 hg
          have e : (p.2.s.st == 0) = false := by simpa using this
          rw [e]; rfl
        · simp [hk]
      · have hy : aget (adel q.es x.ky) k = some y := hy
        rw [hget] at hy
        split at hy
        · cases hy
        · exact ho.es k y hy
    obtain ⟨r1, r2, r3, r4, r5, r6⟩ := delA_ok L { q with es := adel q.es x.ky } ho1 hd1 (fun y hy u hu => by
      have hu : aget (adel q.es x.ky) y.ky = some u := hu
      rw [hget] at hu
      split at hu
      · cases hu
      · exact hx y (List.mem_cons_of_mem _ hy) u hu)
    refine ⟨r1, r2, r3, r4, r5, fun c => ?_⟩
    have : delA q (x :: L) = delA { q with es := adel q.es x.ky } L := rfl
    rw [this, r6 c]
    show (if c ∈ L.map Sb.ky then none else aget (adel q.es x.ky) c) = _
    rw [hget c]
    by_cases hm : c ∈ L.map Sb.ky
    · rw [if_pos hm, if_pos (by rw [List.map_cons]; exact List.mem_cons_of_mem _ hm)]
    · rw [if_neg hm]
      by_cases hc : x.ky = c
      · rw [if_pos hc, if_pos (by rw [List.map_cons, hc]; exact List.mem_cons_self)]
      · rw [if_neg hc, if_neg (fun e => by
          rw [List.map_cons] at e
          rcases List.mem_cons.1 e with e | e
          · exact hc e.symm
          · exact hm e)]
theorem kp_fgt (bf : Int) (x : En) : kpP bf x = !fgtP bf x := by
  unfold kpP fgtP
  rw [show decide (x.s.de ≥ bf) = !decide (x.s.de < bf) by rw [Bool.eq_iff_iff]; simp]
  cases hb : (x.s.st == 0) <;> cases decide (x.s.de < bf) <;> simp [bne, hb]
theorem Rq.fgt {n : Nat} {q : Qu} {M : Mo} (h : Rq n q M) {bf : Int} {L : List Sb} (hp : L.Perm (selE (fgtP bf) q.es)) :
    ((L.length : Nat) : Int) = (M.es.length : Int) - ((M.es.filter (kpP bf)).length : Nat) ∧ Rq n (delA q L) { M with es := M.es.filter (kpP bf) } := by
  have hpm := hp.trans (h.sel (fgtP bf))
  have hwp : ∀ x ∈ L, ∃ u, u ∈ M.es ∧ fgtP bf u = true ∧ u.s = x := fun x hx => by
    obtain ⟨u, hu, rfl⟩ := List.mem_map.1 (hpm.subset hx)
    exact ⟨u, (List.mem_filter.1 hu).1, (List.mem_filter.1 hu).2, rfl⟩
  refine ⟨?_, ?_⟩
  · have h1 := hpm.length_eq
    rw [List.length_map] at h1
    have h2 : ∀ es : List En, (es.filter (fgtP bf)).length + (es.filter (kpP bf)).length = es.length := fun es => by
      induction es with
      | nil => rfl
      | cons y es ih =>
        rw [List.filter_cons, List.filter_cons, kp_fgt]
        cases fgtP bf y <;> simp <;> omega
    have := h2 M.es
    omega
  obtain ⟨r1, r2, r3, r4, r5, r6⟩ := delA_ok L q h.qo h.qd (fun x hx u hu => by
    obtain ⟨v, hv, hf, rfl⟩ := hwp x hx
    rw [h.get hv] at hu
    cases hu
    unfold fgtP at hf
    simp at hf
    exact hf.1)
  refine h.filt r1 r3 r4 r5 r2 (fun c => ?_)
  rw [r6 c]
  cases hc : aget q.es c with
  | none => simp
  | some u =>
    have hm := (fd_iff h.dis).1 ((h.fd c).trans hc)
    have : c ∈ L.map Sb.ky ↔ fgtP bf u = true := by
      constructor
      · intro hcm
        obtain ⟨x, hx, hxc⟩ := List.mem_map.1 hcm
        obtain ⟨v, hv, hl, rfl⟩ := hwp x hx
        have := h.get hv
        rw [hxc, hc] at this
        cases this
        exact hl
      · intro hl
        refine List.mem_map.2 ⟨u.s, ?_, hm.2⟩
        exact hpm.symm.subset (List.mem_map.2 ⟨u, List.mem_filter.2 ⟨hm.1, hl⟩, rfl⟩)
    rw [Option.filter_some, kp_fgt]
    by_cases hl : fgtP bf u = true
    · rw [if_pos (this.2 hl), hl]; rfl
    · have hl2 : fgtP bf u = false := by simpa using hl
      rw [if_neg (fun e => hl (this.1 e)), hl2]; rfl

/-! ### The moderators -/
theorem gset_find (g : ByteArray) (X : MX) (c : ByteArray) : ∀ l : List Gx, ((gset l g X).find? fun y => decide (y.g = c)) = if g = c then some ⟨g, X⟩ else l.find? fun y => decide (y.g = c)
  | [] => by
    unfold gset
    by_cases h : g = c <;> simp [h]
  | y :: r => by
    unfold gset
    by_cases h : y.g = g
    · rw [if_pos h]
      by_cases hc : g = c
      · rw [if_pos hc, List.find?_cons]
        simp [hc]
      · rw [if_neg hc, List.find?_cons, List.find?_cons]
        have : ¬ y.g = c := fun e => hc (by rw [← h, e])
        simp [hc, this]
    · rw [if_neg h]
      rw [List.find?_cons, gset_find g X c r, List.find?_cons]
      by_cases hc : y.g = c
      · have : ¬ g = c := fun e => h (by rw [e, hc])
        simp [hc, this]
      · simp [hc]
theorem gset_md (M : Mo) (g : ByteArray) (X : MX) (c : ByteArray) : ({ M with gs := gset M.gs g X } : Mo).md c = if g = c then X else M.md c := by
  unfold Mo.md
  show (((gset M.gs g X).find? _).map _).getD _ = _
  rw [gset_find]
  split <;> rfl
theorem gset_mem {g : ByteArray} {X : MX} {y : Gx} : ∀ {l : List Gx}, y ∈ gset l g X → y = ⟨g, X⟩ ∨ y ∈ l
  | [], h => by unfold gset at h; exact .inl (by simpa using h)
  | z :: r, h => by
    unfold gset at h
    split at h
    · rcases List.mem_cons.1 h with h | h
      · exact .inl h
      · exact .inr (List.mem_cons_of_mem _ h)
    · rcases List.mem_cons.1 h with h | h
      · exact .inr (by rw [h]; exact List.mem_cons_self)
      · exact (gset_mem h).imp id (List.mem_cons_of_mem _)
theorem gset_len (g : ByteArray) (X : MX) : ∀ l : List Gx, (gset l g X).length ≤ l.length + 1
  | [] => by simp [gset]
  | y :: r => by
    unfold gset
    split
    · simp
    · have := gset_len g X r
      simp only [List.length_cons]; omega
theorem Rq.setr {n : Nat} {q q' : Qu} {M : Mo} (h : Rq n q M) {g : ByteArray} {l : List (Nat → Int)} (hl : ∀ m ∈ l, BY m ∧ NZ 16 m) (hR : setR q g l q') {X : MX} (h0 : setE g l = 0) (hp : X.l.Perm l) (hs : X.l.Pairwise fun x y => cfA x y < 0) :
    Rq (n + 1) q' { M with gs := gset M.gs g X } := by
  have hok := h.qo.setR hl hR
  have h8 : l.length ≤ 8 := by
    unfold setE at h0
    split at h0
    · contradiction
    · split at h0
      · cases h0
      · omega
  have hbase : q'.room = q.room ∧ q'.days = q.days ∧ q'.es = q.es ∧ ∀ c, (q'.md c).l = if g = c then X.l else (q.md c).l := by
    rcases hR with ⟨h1, _⟩ | ⟨_, rfl, rfl⟩ | ⟨_, hne, x, hxp, hxs, _, rfl⟩
    · exact absurd h0 h1
    · refine ⟨rfl, rfl, rfl, fun c => ?_⟩
      show (((aget (adel q.ms g) c).getD mxz)).l = _
      rw [aget_adel]
      split
      · rw [List.perm_nil.1 hp]; rfl
      · rfl
    · refine ⟨rfl, rfl, rfl, fun c => ?_⟩
      show (((aget (aset q.ms g x) c).getD mxz)).l = _
      rw [aget_aset]
      split
      · show x.l = X.l
        refine perm_uniq39 (R := fun x y => ¬ cfA y x < 0) (hxp.trans hp.symm) hxs (hs.imp fun {a b} hab hc => ?_) (fun a ha b hb h1 h2 => ?_)
        · have : cfA a b = - cfA b a := cb_anti _ _
          omega
        · have e : cfA a b = - cfA b a := cb_anti _ _
          have e0 : auB a = auB b := cb_zero _ _ (by unfold cfA at h1 h2 e; omega)
          have ma := hl a (hxp.subset ha)
          have mb := hl b (hxp.subset hb)
          exact nz_eq ma.2 mb.2 (auB_inj ma.1 mb.1 e0)
      · rfl
  obtain ⟨b1, b2, b3, b4⟩ := hbase
  exact {
    qo := hok
    room := by rw [b1]; exact h.room
    days := by rw [b2]; exact h.days
    qd := by rw [b3]; exact h.qd
    dis := h.dis
    fd := fun k => by rw [b3]; exact h.fd k
    srt := h.srt
    ms := fun c => by
      rw [b4 c, gset_md]
      split
      · rfl
      · exact h.ms c
    gs := fun y hy => by
      rcases gset_mem hy with rfl | hy
      · exact ⟨fun z hz => hl z (hp.subset hz), by show X.l.length ≤ 8; rw [hp.length_eq]; exact h8⟩
      · exact h.gs y hy
    gl := by have := gset_len g X M.gs; have := h.gl; show (gset M.gs g X).length ≤ n + 1; omega
    el := Nat.le_succ_of_le h.el
    le := h.le }
theorem Rq.new (room days : Int) (h : newR room days = false) : Rq 0 ⟨room, days, 0, [], []⟩ ⟨room, days, [], []⟩ := by
  unfold newR at h
  simp at h
  exact ⟨⟨⟨h.1.1.1, h.1.1.2⟩, ⟨h.1.2, h.2⟩, rfl, fun g x h => (by cases h), fun k x h => (by cases h)⟩, rfl, rfl, List.Pairwise.nil, List.Pairwise.nil, fun k => rfl, List.Pairwise.nil, fun g => rfl, fun y hy => (by cases hy), by show (0 : Nat) ≤ 0; omega, by show (0 : Nat) ≤ 0; omega, fun x hx => (by cases hx)⟩

end Go.Proofs.YtfacflbmlfbeeaaGreatDoor

/- Chapter 39: SetModerators again, with the types of the rows. Printed by mksetq39.py. -/
namespace Go.Proofs.YtfacflbmlfbeeaaGreatDoor
open Go.RowKit Go.Sort Go.Maps

set_option maxHeartbeats 1000000 in
theorem setModsQ_any {w : World} {b mb eb : Nat} {q : Qu} (h : Mq w b mb eb q) (hQ : QSep w q) (g : ByteArray) (l : List (Nat → Int)) (p : Option Addr) (c : Nat) (hR : RowA auC 16 w p l) (hp : ∀ g o, p = some ⟨g, o, none⟩ → g < w.heap.size) (hb : ∀ m ∈ l, BY m) (hG : GW w) :
    Calls Tryz.prog 38 #[.pointer (some ⟨b, 0, none⟩), .string g, .slice p l.length c] w fun e w' => e = .returned (.int .i64 (setE g l)) ∧ (∃ q', setR q g l q' ∧ Mq w' b mb eb q' ∧ QSep w' q') ∧ Kp (QB b mb eb) w w' := by
  refine vc_setMods b g p l.length c w _ ⟨(gcheck_any g w hG).mono fun e w1 ⟨he, k1⟩ => ⟨_, he, .of_k0 k1, bsp_intro (fun h1 => ?_) (fun h1 => bsp_intro (fun h2 => ?_) (fun h2 => ?_))⟩⟩
  · have h1 : gnE g ≠ 0 := by simpa using h1
    have hE : setE g l = gnE g := by unfold setE; rw [if_pos h1]
    exact ⟨by rw [hE], ⟨q, .inl ⟨by rw [hE]; exact h1, rfl⟩, h.k0 k1, hQ.k0 k1⟩, k1.q0⟩
  · have h1 : gnE g = 0 := by simpa using h1
    have h2 : 8 < l.length := by simp at h2; omega
    have hE : setE g l = 9 := by unfold setE; rw [if_neg (by omega), if_pos h2]
    exact ⟨by rw [hE], ⟨q, .inl ⟨by rw [hE]; decide, rfl⟩, h.k0 k1, hQ.k0 k1⟩, k1.q0⟩
  have h1 : gnE g = 0 := by simpa using h1
  have h2 : ¬ 8 < l.length := by simp at h2; omega
  have hgs := gnE_sz39 h1
  refine ⟨(avalues_any p l.length c w1).mono fun e w2 ⟨⟨Bs, he, hc, hlt⟩, k2⟩ => ⟨_, he, .of_k0 k2, ?_⟩⟩
  have k02 := k1.trans k2
  refine ⟨(asorted_any l p c Bs w2 hc hlt (hR.k0 k02) (fun g o e => Nat.lt_of_lt_of_le (hp g o e) k02.size) (by omega)).mono fun e w3 ⟨⟨p', c', l', he, hpm, hs, ho⟩, k3⟩ => ⟨_, _, _, he, .of_k0 k3, ?_⟩⟩
  have k03 := k02.trans k3
  have hl' := hpm.length_eq
  have hb' : ∀ m ∈ l', BY m := fun m hm => hb m (hpm.subset hm)
  refine ⟨(aclone_any l' p' c' w3 (RowA.own ho auC_length (by decide)) (by omega)).mono fun e w4 hcl => ?_⟩
  obtain ⟨⟨p4, c4, he, ho4⟩, k4⟩ := hcl
  refine ⟨_, _, _, he, .of_k0 k4, ?_⟩
  refine ⟨(acompact_any l' p4 c4 w4 ho4 hb' (by omega)).mono fun e w5 ⟨⟨m, he, hm⟩, k5⟩ => ⟨_, _, _, he, .of_kp k5 (fun z hz => by cases hz), ?_⟩⟩
  have k35 : K0 w3 w5 := k4.fresh k5 (fun i hi e => by have := own_ge ho4 e; omega)
  have k05 := k03.trans k35
  have hadj := sorted_adj hs hb'
  have hnd : (l'.map auI).Nodup ↔ (l.map auI).Nodup := (hpm.map auI).nodup_iff
  refine bsp_intro (fun h3 => ?_) (fun h3 => ?_)
  · have h3 : m < l.length := by simp at h3; omega
    have hE : setE g l = 7 := by
      unfold setE
      rw [if_neg (by omega), if_neg h2, if_neg]
      intro hn
      rcases hm with ⟨rfl, _⟩ | ⟨_, ha⟩
      · omega
      · exact (hadj.1 ha) (hnd.2 hn)
    exact ⟨by rw [hE], ⟨q, .inl ⟨by rw [hE]; decide, rfl⟩, h.k0 k05, hQ.k0 k05⟩, k05.q0⟩
  have h3 : ¬ m < l.length := by simp at h3; omega
  have hE : setE g l = 0 := by
    unfold setE
    rw [if_neg (by omega), if_neg h2, if_pos]
    rcases hm with ⟨_, ha⟩ | ⟨hlt, _⟩
    · exact hnd.1 (Classical.byContradiction fun hn => ha (hadj.2 hn))
    · omega
  have h5 := h.k0 k05
  refine bsp_intro (fun h4 => ?_) (fun h4 => ?_)
  · have h4 : l'.length = 0 := by simpa using h4
    obtain ⟨w6, hbl, h6, k6⟩ := h5.delM (g := g) (by omega)
    refine ⟨some mb, h5.cM, w6, hbl, .of_kp k6 (fun z hz => by cases hz), by rw [hE], ⟨_, .inr (.inl ⟨hE, List.eq_nil_of_length_eq_zero (by omega), rfl⟩), h6, fun g' x hx => (hQ.k0 k05).qb h5 (k6.qb (fun k e => .inr (.inl e))) g' x (by
      have hx : aget (adel q.ms g) g' = some x := hx
      rw [aget_adel] at hx
      split at hx
      · cases hx
      · exact hx)⟩, k05.q0.trans (k6.qb (fun k e => .inr (.inl e)))⟩
  · have h4 : ¬ l'.length = 0 := by simpa using h4
    have hR' : RowA auC 16 w5 p' l' := (RowA.own ho auC_length (by decide)).k0 k35
    obtain ⟨w6, hu, h6, k6⟩ := h5.updM ⟨l', p', c'⟩ hR' (g := g) (by omega)
    refine ⟨some mb, h5.cM, bsp_intro (fun h => by cases h) (fun _ => ⟨some mb, h5.cM, w6, hu, .of_kp k6 (fun z hz => by cases hz), by rw [hE], ⟨_, .inr (.inr ⟨hE, fun e => h4 (by rw [hl', e]; rfl), ⟨l', p', c'⟩, hpm, hs, own_le ho, rfl⟩), h6, fun g' x hx => by
      have k6' : Kp (QB b mb eb) w5 w6 := k6.qb (fun k e => .inr (.inl e))
      have hx : aget (aset q.ms g ⟨l', p', c'⟩) g' = some x := hx
      rw [aget_aset] at hx
      split at hx
      · cases hx
        exact ((TyA.own ho).k0 k35).kp k6' (fun _ _ _ hc => h5.not_ty hc (by decide))
      · exact (hQ.k0 k05).qb h5 k6' g' x hx⟩, k05.q0.trans (k6.qb (fun k e => .inr (.inl e)))⟩)⟩

end Go.Proofs.YtfacflbmlfbeeaaGreatDoor

/- Chapter 39: the example of the chapter, plain. No condition. -/
namespace Go.Proofs.YtfacflbmlfbeeaaGreatDoor
open Go.RowKit Go.Sort Go.Maps

def k39 (v : Int) : Nat → Int
  | 0 => v
  | _ + 1 => 0
theorem k39_BY {v : Int} (h : 0 ≤ v ∧ v ≤ 255) : BY (k39 v) := fun j => by cases j <;> simp [k39] <;> omega
theorem k39_NZ {n : Nat} (h : 0 < n) (v : Int) : NZ n (k39 v) := fun j hj => by
  cases j with
  | zero => omega
  | succ j => rfl
def kG : ByteArray := ⟨#[103]⟩
def kX : ByteArray := ⟨#[116, 101, 120, 116, 32, 111, 102, 32, 120]⟩
def kY : ByteArray := ⟨#[116, 101, 120, 116, 32, 111, 102, 32, 121]⟩
def kex : En := newE (k39 7) kG kX 10
def key_ : En := newE (k39 3) kG kY 5
def kx : Ky := (idI (k39 7), kG)
def ky : Ky := (idI (k39 3), kG)
def key2 : En := ⟨key_.s, true, k39 1, 20⟩
def kex2 : En := ⟨kex.s, true, k39 2, 20⟩
def key3 : En := plainE (finS39 key_.s (k39 2) 80 1 ⟨#[]⟩)
def kq (x : MX) (wt : Int) (es : List (Ky × En)) : Qu := ⟨5, 14, wt, [(kG, x)], es⟩
/-- Two moderators. -/
def kM (x : MX) : Prop := x.l.Perm [k39 2, k39 1]
theorem kq_md {x : MX} {wt : Int} {es : List (Ky × En)} : (kq x wt es).md kG = x := by unfold Qu.md kq; simp [aget]
theorem kM_is {x : MX} (h : kM x) (i : Int) (hi : i = 1 ∨ i = 2) : isMB x (k39 i) = true := by
  unfold isMB
  rw [decide_eq_true_eq]
  refine List.mem_map.2 ⟨k39 i, h.symm.subset ?_, rfl⟩
  rcases hi with rfl | rfl <;> simp
theorem kxy : ¬ kx = ky := by decide +kernel
theorem k_set : setE kG [k39 2, k39 1] = 0 := by
  unfold setE
  rw [if_neg (by decide +kernel), if_neg (by decide), if_pos]
  have h : auI (k39 2) ≠ auI (k39 1) := by decide +kernel
  simp [h]
theorem kset_iff {q' : Qu} (h : setR ⟨5, 14, 0, [], []⟩ kG [k39 2, k39 1] q') : ∃ x, kM x ∧ q' = kq x 0 [] := by
  rcases h with ⟨h, _⟩ | ⟨_, h, _⟩ | ⟨_, _, x, hp, _, _, rfl⟩
  · exact absurd k_set h
  · cases h
  · exact ⟨x, hp, rfl⟩
theorem k_gn : gnE kG = 0 := by decide +kernel
theorem k_sub1 {x : MX} (h : kM x) : subE (kq x 0 []) (k39 7) kG kX 10 = 0 := by
  unfold subE
  rw [if_neg (by decide), if_neg (by rw [k_gn]; decide), if_neg (by decide), kq_md, if_neg (by rw [h.length_eq]; decide), if_neg (by show ¬ (aget [] _).isSome = true; decide), if_neg (by show ¬ (5 : Int) ≤ 0; decide)]
theorem k_subQ1 {x : MX} (h : kM x) : subQ (kq x 0 []) (k39 7) kG kX 10 = kq x 1 [(kx, kex)] := by
  unfold subQ
  rw [if_pos (k_sub1 h)]
  rfl
theorem k_a1 : aget [(kx, kex)] ky = none := by unfold aget; rw [if_neg kxy]; rfl
theorem k_sub2 {x : MX} (h : kM x) : subE (kq x 1 [(kx, kex)]) (k39 3) kG kY 5 = 0 := by
  unfold subE
  rw [if_neg (by decide), if_neg (by rw [k_gn]; decide), if_neg (by decide), kq_md, if_neg (by rw [h.length_eq]; decide), if_neg (by show ¬ (aget [(kx, kex)] ky).isSome = true; rw [k_a1]; decide), if_neg (by show ¬ (5 : Int) ≤ 1; decide)]
theorem k_subQ2 {x : MX} (h : kM x) : subQ (kq x 1 [(kx, kex)]) (k39 3) kG kY 5 = kq x 2 [(kx, kex), (ky, key_)] := by
  unfold subQ
  rw [if_pos (k_sub2 h)]
  show kq x 2 (aset [(kx, kex)] ky key_) = _
  unfold aset
  rw [if_neg kxy]
  rfl
theorem k_s1 : ∀ e1 e2 : En, selE (clP kG (auI (k39 1)) 20) [(kx, e1), (ky, e2)] = (if clP kG (auI (k39 1)) 20 e1 = true then [e1.s] else []) ++ (if clP kG (auI (k39 1)) 20 e2 = true then [e2.s] else []) := fun e1 e2 => by
  unfold selE
  rw [List.filter_cons, List.filter_cons, List.filter_nil]
  split <;> split <;> rfl
theorem k_s2 : ∀ e1 e2 : En, selE (clP kG (auI (k39 2)) 20) [(kx, e1), (ky, e2)] = (if clP kG (auI (k39 2)) 20 e1 = true then [e1.s] else []) ++ (if clP kG (auI (k39 2)) 20 e2 = true then [e2.s] else []) := fun e1 e2 => by
  unfold selE
  rw [List.filter_cons, List.filter_cons, List.filter_nil]
  split <;> split <;> rfl
theorem k_c1 : clP kG (auI (k39 1)) 20 kex = true := by decide +kernel
theorem k_c2 : clP kG (auI (k39 1)) 20 key_ = true := by decide +kernel
theorem k_c3 : clP kG (auI (k39 1)) 20 key2 = true := by decide +kernel
theorem k_c4 : clP kG (auI (k39 2)) 20 kex = true := by decide +kernel
theorem k_c5 : clP kG (auI (k39 2)) 20 key2 = false := by decide +kernel
theorem k_lt : cfM key_.s kex.s < 0 := by decide +kernel
theorem k_sel1 {x : MX} : isSel (kq x 2 [(kx, kex), (ky, key_)]) kG (auI (k39 1)) 20 = [kex.s, key_.s] := by
  show selE _ [(kx, kex), (ky, key_)] = _
  rw [k_s1, if_pos k_c1, if_pos k_c2]; rfl
theorem k_sel2 {x : MX} : isSel (kq x 2 [(kx, kex), (ky, key2)]) kG (auI (k39 1)) 20 = [kex.s, key_.s] := by
  show selE _ [(kx, kex), (ky, key2)] = _
  rw [k_s1, if_pos k_c1, if_pos k_c3]; rfl
theorem k_sel3 {x : MX} : isSel (kq x 2 [(kx, kex), (ky, key2)]) kG (auI (k39 2)) 20 = [kex.s] := by
  show selE _ [(kx, kex), (ky, key2)] = _
  rw [k_s2, if_pos k_c4, if_neg (by rw [k_c5]; decide)]; rfl
theorem k_min {s : Sb} (h : s ∈ [kex.s, key_.s]) (hm : ∀ y ∈ [kex.s, key_.s], ¬ cfM y s < 0) : s = key_.s := by
  rcases List.mem_cons.1 h with rfl | h
  · exact absurd k_lt (hm key_.s (by simp))
  · simpa using h
theorem k_clm {x : MX} (h : kM x) (i : Int) (hi : i = 1 ∨ i = 2) {es : List (Ky × En)} (hs : (isSel (kq x 2 es) kG (auI (k39 i)) 20).length ≠ 0) : clmE (kq x 2 es) kG (k39 i) 20 = 0 := by
  unfold clmE
  rw [if_neg (by decide), kq_md, if_neg (by rw [kM_is h i hi]; decide), if_neg hs]
theorem k_set1 {e1 e2 v : En} : aset [(kx, e1), (ky, e2)] ky v = [(kx, e1), (ky, v)] := by
  unfold aset
  rw [if_neg kxy]
  unfold aset
  rw [if_pos rfl]
theorem k_set2 {e1 e2 v : En} : aset [(kx, e1), (ky, e2)] kx v = [(kx, v), (ky, e2)] := by
  unfold aset
  rw [if_pos rfl]
theorem k_gety {e1 e2 : En} : aget [(kx, e1), (ky, e2)] ky = some e2 := by
  unfold aget
  rw [if_neg kxy]
  unfold aget
  rw [if_pos rfl]
theorem k_en {x : MX} {e1 e2 : En} : (kq x 2 [(kx, e1), (ky, e2)]).en ky = e2 := by
  unfold Qu.en
  show (aget [(kx, e1), (ky, e2)] ky).getD enz = e2
  rw [k_gety]; rfl
theorem k_dec {x : MX} (h : kM x) {e1 : En} (now : Int) : decE (kq x 2 [(kx, e1), (ky, key2)]) (k39 3) kG (k39 2) now = if blk key2 (auI (k39 2)) now = true then 25 else 0 := by
  unfold decE
  rw [kq_md, if_neg (by rw [kM_is h 2 (.inr rfl)]; decide), if_neg (by show ¬ (aget [(kx, e1), (ky, key2)] ky).isSome = false; rw [k_gety]; decide)]
  have e : (kq x 2 [(kx, e1), (ky, key2)]).en (idI (k39 3), kG) = key2 := k_en
  rw [e, if_neg (by show ¬ (0 : Int) ≠ 0; decide)]
theorem k_b79 : blk key2 (auI (k39 2)) 79 = true := by decide +kernel
theorem k_b80 : blk key2 (auI (k39 2)) 80 = false := by decide +kernel
theorem k_ap79 {x : MX} (h : kM x) {e1 : En} : apE (kq x 2 [(kx, e1), (ky, key2)]) (k39 3) kG (k39 2) 79 = 25 := by
  unfold apE
  rw [if_neg (by decide), k_dec h, if_pos k_b79]
theorem k_ap80 {x : MX} (h : kM x) {e1 : En} : apE (kq x 2 [(kx, e1), (ky, key2)]) (k39 3) kG (k39 2) 80 = 0 := by
  unfold apE
  rw [if_neg (by decide), k_dec h, if_neg (by rw [k_b80]; decide)]
theorem k_apQ79 {x : MX} (h : kM x) {e1 : En} : apQ (kq x 2 [(kx, e1), (ky, key2)]) (k39 3) kG (k39 2) 79 1 ⟨#[]⟩ = kq x 2 [(kx, e1), (ky, key2)] := by
  unfold apQ decQ
  rw [if_neg (by decide), k_dec h, if_pos k_b79, if_neg (by decide)]
theorem k_apQ80 {x : MX} (h : kM x) {e1 : En} : apQ (kq x 2 [(kx, e1), (ky, key2)]) (k39 3) kG (k39 2) 80 1 ⟨#[]⟩ = kq x 1 [(kx, e1), (ky, key3)] := by
  unfold apQ decQ
  have e : (kq x 2 [(kx, e1), (ky, key2)]).en (idI (k39 3), kG) = key2 := k_en
  rw [if_neg (by decide), k_dec h, k_b80, if_pos (by decide), e]
  show kq x 1 (aset [(kx, e1), (ky, key2)] ky key3) = _
  rw [k_set1]
theorem k_l1 : lsP kG 1 kex2 = false := by decide +kernel
theorem k_l2 : lsP kG 1 key3 = true := by decide +kernel
theorem k_cnt : (selE (lsP kG 1) [(kx, kex2), (ky, key3)]).length = 1 := by
  unfold selE
  rw [List.filter_cons, if_neg (by rw [k_l1]; decide), List.filter_cons, if_pos k_l2]
  rfl
theorem kq0_ok : (⟨5, 14, 0, [], []⟩ : Qu).OK := ⟨⟨by decide, by decide⟩, ⟨by decide, by decide⟩, rfl, fun g x h => (by cases h), fun k x h => (by cases h)⟩
theorem kml : ∀ m ∈ [k39 2, k39 1], BY m ∧ NZ 16 m := fun m hm => by
  simp only [List.mem_cons, List.not_mem_nil, or_false] at hm
  rcases hm with rfl | rfl
  · exact ⟨k39_BY (by decide), k39_NZ (by decide) 2⟩
  · exact ⟨k39_BY (by decide), k39_NZ (by decide) 1⟩

end Go.Proofs.YtfacflbmlfbeeaaGreatDoor

/- The formulas of functions by the symbolic evaluator, and that each gives the call's contract. Written by a program (gen.py). No condition. -/
namespace Go.Proofs.YtfacflbmlfbeeaaGreatDoor
set_option maxRecDepth 100000
set_option linter.unusedVariables false

def VC_lknown (w : World) (R : Ending -> World -> Prop) : Prop := CallsS Tryz.prog 13 #[.int .i64 5, .int .i64 14] w fun (e : Ending) (w' : World) => ∃ (x : Option Addr) (x_1 : Int), e = .returned (.tuple #[.pointer x, .int .i64 x_1]) /\ KeptL [] w w' /\ bsp (x_1 != 0 || x.isNone) (R (.returned (.bool false)) w') (∀ (n n_1 n_2 n_3 n_4 : Nat) (W : World), Loc w.heap.size [Blk.mk n_4 45 [Value.int .u8 2, .int .u8 0, .int .u8 0, .int .u8 0, .int .u8 0, .int .u8 0, .int .u8 0, .int .u8 0, .int .u8 0, .int .u8 0, .int .u8 0, .int .u8 0, .int .u8 0, .int .u8 0, .int .u8 0, .int .u8 0, .int .u8 1, .int .u8 0, .int .u8 0, .int .u8 0, .int .u8 0, .int .u8 0, .int .u8 0, .int .u8 0, .int .u8 0, .int .u8 0, .int .u8 0, .int .u8 0, .int .u8 0, .int .u8 0, .int .u8 0, .int .u8 0] 2, Blk.mk n_3 32 [Value.int .u8 3, .int .u8 0, .int .u8 0, .int .u8 0, .int .u8 0, .int .u8 0, .int .u8 0, .int .u8 0,
 .int .u8 0, .int .u8 0, .int .u8 0, .int .u8 0, .int .u8 0, .int .u8 0, .int .u8 0, .int .u8 0, .int .u8 0, .int .u8 0, .int .u8 0, .int .u8 0, .int .u8 0, .int .u8 0, .int .u8 0, .int .u8 0, .int .u8 0, .int .u8 0, .int .u8 0, .int .u8 0, .int .u8 0, .int .u8 0, .int .u8 0, .int .u8 0] (wrM 2), Blk.mk n_2 32 [Value.int .u8 7, .int .u8 0, .int .u8 0, .int .u8 0, .int .u8 0, .int .u8 0, .int .u8 0, .int .u8 0, .int .u8 0, .int .u8 0, .int .u8 0, .int .u8 0, .int .u8 0, .int .u8 0, .int .u8 0, .int .u8 0, .int .u8 0, .int .u8 0, .int .u8 0, .int .u8 0, .int .u8 0, .int .u8 0, .int .u8 0, .int .u8 0, .int .u8 0, .int .u8 0, .int .u8 0, .int .u8 0, .int .u8 0, .int .u8 0, .int .u8 0, .int .u8 0] (wrM 2), Blk.mk n_1 45 [Value.int .u8 2, .int .u8 0, .int .u8 0, .int .u8 0, .int .u8 0, .int .u8 0, .int .u8 0, .int .u8 0, .int .u8 0, .int .u8 0, .int .u8 0, .int .u8 0,
 .int .u8 0, .int .u8 0, .int .u8 0, .int .u8 0] (wrM 2), Blk.mk n 45 [Value.int .u8 1, .int .u8 0, .int .u8 0, .int .u8 0, .int .u8 0, .int .u8 0, .int .u8 0, .int .u8 0, .int .u8 0, .int .u8 0, .int .u8 0, .int .u8 0, .int .u8 0, .int .u8 0, .int .u8 0, .int .u8 0] (wrM 2)] w' W -> CallsS Tryz.prog 38 #[.pointer x, .string (ByteArray.mk #[103]), .slice (some (Addr.mk n_4 0 none)) 2 2] W fun (e : Ending) (w' : World) => ∃ (x_2 : Int), e = .returned (.int .i64 x_2) /\ KeptL [n_3, n_2, n_1, n] W w' /\ CallsS Tryz.prog 18 #[.pointer x, .agg #[.int .u8 7, .int .u8 0, .int .u8 0, .int .u8 0, .int .u8 0, .int .u8 0, .int .u8 0, .int .u8 0, .int .u8 0, .int .u8 0, .int .u8 0, .int .u8 0, .int .u8 0, .int .u8 0, .int .u8 0, .int .u8 0, .int .u8 0, .int .u8 0, .int .u8 0, .int .u8 0, .int .u8 0, .int .u8 0, .int .u8 0, .int .u8 0, .int .u8 0, .int .u8 0, .int .u8 0, .int .u8 0,
 .int .u8 0, .int .u8 0, .int .u8 0, .int .u8 0], .string (ByteArray.mk #[103]), .string (ByteArray.mk #[116, 101, 120, 116, 32, 111, 102, 32, 120]), .int .i64 10] w' fun (e : Ending) (w'_1 : World) => ∃ (x_3 : Int), e = .returned (.int .i64 x_3) /\ KeptL [n_3, n_2, n_1, n] w' w'_1 /\ CallsS Tryz.prog 18 #[.pointer x, .agg #[.int .u8 3, .int .u8 0, .int .u8 0, .int .u8 0, .int .u8 0, .int .u8 0, .int .u8 0, .int .u8 0, .int .u8 0, .int .u8 0, .int .u8 0, .int .u8 0, .int .u8 0, .int .u8 0, .int .u8 0, .int .u8 0, .int .u8 0, .int .u8 0, .int .u8 0, .int .u8 0, .int .u8 0, .int .u8 0, .int .u8 0, .int .u8 0, .int .u8 0, .int .u8 0, .int .u8 0, .int .u8 0, .int .u8 0, .int .u8 0, .int .u8 0, .int .u8 0], .string (ByteArray.mk #[103]), .string (ByteArray.mk #[116, 101, 120, 116, 32, 111, 102, 32, 121]), .int .i64 5] w'_1 fun (e : Ending) (w' : World) => ∃ (x_4 : Int),
 e = .returned (.int .i64 x_4) /\ KeptL [n_3, n_2, n_1, n] w'_1 w' /\ CallsS Tryz.prog 39 #[.pointer x, .string (ByteArray.mk #[103]), .agg #[.int .u8 1, .int .u8 0, .int .u8 0, .int .u8 0, .int .u8 0, .int .u8 0, .int .u8 0, .int .u8 0, .int .u8 0, .int .u8 0, .int .u8 0, .int .u8 0, .int .u8 0, .int .u8 0, .int .u8 0, .int .u8 0], .int .i64 20] w' fun (e : Ending) (w'_2 : World) => ∃ (f : Nat -> Int) (x_5 : ByteArray), ∃ (x_6 : ByteArray) (x_7 : Int), ∃ (x_8 : Int) (f_1 : Nat -> Int), ∃ (x_9 : Int) (x_10 : ByteArray) (x_11 : Int), e = .returned (.tuple #[.agg (arrI .u8 f 32 0 ++ ([Value.string x_5, .string x_6, .int .i64 x_7, .int .i64 x_8] ++ arrI .u8 f_1 16 0 ++ [Value.int .i64 x_9, .string x_10])).toArray, .int .i64 x_11]) /\ KeptL [n_3, n_2, n_1, n] w' w'_2 /\ ∀ (n_5 : Nat) (W : World), Loc w.heap.size [Blk.mk n_5 48 (arrI .u8 f 32 0 ++ ([Value.string x_5,
 .string x_6, .int .i64 x_7, .int .i64 x_8] ++ arrI .u8 f_1 16 0 ++ [Value.int .i64 x_9, .string x_10])) (wrM 2), Blk.mk n_3 32 [Value.int .u8 3, .int .u8 0, .int .u8 0, .int .u8 0, .int .u8 0, .int .u8 0, .int .u8 0, .int .u8 0, .int .u8 0, .int .u8 0, .int .u8 0, .int .u8 0, .int .u8 0, .int .u8 0, .int .u8 0, .int .u8 0, .int .u8 0, .int .u8 0, .int .u8 0, .int .u8 0, .int .u8 0, .int .u8 0, .int .u8 0, .int .u8 0, .int .u8 0, .int .u8 0, .int .u8 0, .int .u8 0, .int .u8 0, .int .u8 0, .int .u8 0, .int .u8 0] 0, Blk.mk n_2 32 [Value.int .u8 7, .int .u8 0, .int .u8 0, .int .u8 0, .int .u8 0, .int .u8 0, .int .u8 0, .int .u8 0, .int .u8 0, .int .u8 0, .int .u8 0, .int .u8 0, .int .u8 0, .int .u8 0, .int .u8 0, .int .u8 0, .int .u8 0, .int .u8 0, .int .u8 0, .int .u8 0, .int .u8 0, .int .u8 0, .int .u8 0, .int .u8 0, .int .u8 0, .int .u8 0, .int .u8 0,
 .int .u8 0, .int .u8 0, .int .u8 0, .int .u8 0, .int .u8 0] 0, Blk.mk n_1 45 [Value.int .u8 2, .int .u8 0, .int .u8 0, .int .u8 0, .int .u8 0, .int .u8 0, .int .u8 0, .int .u8 0, .int .u8 0, .int .u8 0, .int .u8 0, .int .u8 0, .int .u8 0, .int .u8 0, .int .u8 0, .int .u8 0] 0, Blk.mk n 45 [Value.int .u8 1, .int .u8 0, .int .u8 0, .int .u8 0, .int .u8 0, .int .u8 0, .int .u8 0, .int .u8 0, .int .u8 0, .int .u8 0, .int .u8 0, .int .u8 0, .int .u8 0, .int .u8 0, .int .u8 0, .int .u8 0] 0] w'_2 W -> CallsS Tryz.prog 39 #[.pointer x, .string (ByteArray.mk #[103]), .agg #[.int .u8 1, .int .u8 0, .int .u8 0, .int .u8 0, .int .u8 0, .int .u8 0, .int .u8 0, .int .u8 0, .int .u8 0, .int .u8 0, .int .u8 0, .int .u8 0, .int .u8 0, .int .u8 0, .int .u8 0, .int .u8 0], .int .i64 20] W fun (e : Ending) (w' : World) => ∃ (f_2 : Nat -> Int) (x_12 : ByteArray), ∃ (x_13 : ByteArray) (x_14 : Int),
 ∃ (x_15 : Int) (f_3 : Nat -> Int), ∃ (x_16 : Int) (x_17 : ByteArray) (x_18 : Int), e = .returned (.tuple #[.agg (arrI .u8 f_2 32 0 ++ ([Value.string x_12, .string x_13, .int .i64 x_14, .int .i64 x_15] ++ arrI .u8 f_3 16 0 ++ [Value.int .i64 x_16, .string x_17])).toArray, .int .i64 x_18]) /\ KeptL [n_5, n_3, n_2, n_1, n] W w' /\ ∀ (n_6 : Nat) (W : World), Loc w.heap.size [Blk.mk n_6 48 (arrI .u8 f_2 32 0 ++ ([Value.string x_12, .string x_13, .int .i64 x_14, .int .i64 x_15] ++ arrI .u8 f_3 16 0 ++ [Value.int .i64 x_16, .string x_17])) (wrM 2), Blk.mk n_5 48 (arrI .u8 f 32 0 ++ ([Value.string x_5, .string x_6, .int .i64 x_7, .int .i64 x_8] ++ arrI .u8 f_1 16 0 ++ [Value.int .i64 x_9, .string x_10])) 0, Blk.mk n_3 32 [Value.int .u8 3, .int .u8 0, .int .u8 0, .int .u8 0, .int .u8 0, .int .u8 0, .int .u8 0, .int .u8 0, .int .u8 0, .int .u8 0, .int .u8 0, .int .u8 0,
 .int .u8 0, .int .u8 0, .int .u8 0, .int .u8 0, .int .u8 0, .int .u8 0, .int .u8 0, .int .u8 0, .int .u8 0, .int .u8 0, .int .u8 0, .int .u8 0, .int .u8 0, .int .u8 0, .int .u8 0, .int .u8 0, .int .u8 0, .int .u8 0, .int .u8 0, .int .u8 0] 0, Blk.mk n_2 32 [Value.int .u8 7, .int .u8 0, .int .u8 0, .int .u8 0, .int .u8 0, .int .u8 0, .int .u8 0, .int .u8 0, .int .u8 0, .int .u8 0, .int .u8 0, .int .u8 0, .int .u8 0, .int .u8 0, .int .u8 0, .int .u8 0, .int .u8 0, .int .u8 0, .int .u8 0, .int .u8 0, .int .u8 0, .int .u8 0, .int .u8 0, .int .u8 0, .int .u8 0, .int .u8 0, .int .u8 0, .int .u8 0, .int .u8 0, .int .u8 0, .int .u8 0, .int .u8 0] 0, Blk.mk n_1 45 [Value.int .u8 2, .int .u8 0, .int .u8 0, .int .u8 0, .int .u8 0, .int .u8 0, .int .u8 0, .int .u8 0, .int .u8 0, .int .u8 0, .int .u8 0, .int .u8 0, .int .u8 0, .int .u8 0, .int .u8 0, .int .u8 0] 0, Blk.mk n 45
 [Value.int .u8 1, .int .u8 0, .int .u8 0, .int .u8 0, .int .u8 0, .int .u8 0, .int .u8 0, .int .u8 0, .int .u8 0, .int .u8 0, .int .u8 0, .int .u8 0, .int .u8 0, .int .u8 0, .int .u8 0, .int .u8 0] 0] w' W -> CallsS Tryz.prog 39 #[.pointer x, .string (ByteArray.mk #[103]), .agg #[.int .u8 2, .int .u8 0, .int .u8 0, .int .u8 0, .int .u8 0, .int .u8 0, .int .u8 0, .int .u8 0, .int .u8 0, .int .u8 0, .int .u8 0, .int .u8 0, .int .u8 0, .int .u8 0, .int .u8 0, .int .u8 0], .int .i64 20] W fun (e : Ending) (w' : World) => ∃ (f_4 : Nat -> Int) (x_19 : ByteArray), ∃ (x_20 : ByteArray) (x_21 : Int), ∃ (x_22 : Int) (f_5 : Nat -> Int), ∃ (x_23 : Int) (x_24 : ByteArray) (x_25 : Int), e = .returned (.tuple #[.agg (arrI .u8 f_4 32 0 ++ ([Value.string x_19, .string x_20, .int .i64 x_21, .int .i64 x_22] ++ arrI .u8 f_5 16 0 ++ [Value.int .i64 x_23, .string x_24])).toArray,
 .int .i64 x_25]) /\ KeptL [n_6, n_5, n_3, n_2, n_1, n] W w' /\ ∀ (n_7 : Nat) (W : World), Loc w.heap.size [Blk.mk n_7 48 (arrI .u8 f_4 32 0 ++ ([Value.string x_19, .string x_20, .int .i64 x_21, .int .i64 x_22] ++ arrI .u8 f_5 16 0 ++ [Value.int .i64 x_23, .string x_24])) (wrM 2), Blk.mk n_6 48 (arrI .u8 f_2 32 0 ++ ([Value.string x_12, .string x_13, .int .i64 x_14, .int .i64 x_15] ++ arrI .u8 f_3 16 0 ++ [Value.int .i64 x_16, .string x_17])) 0, Blk.mk n_5 48 (arrI .u8 f 32 0 ++ ([Value.string x_5, .string x_6, .int .i64 x_7, .int .i64 x_8] ++ arrI .u8 f_1 16 0 ++ [Value.int .i64 x_9, .string x_10])) 0, Blk.mk n_3 32 [Value.int .u8 3, .int .u8 0, .int .u8 0, .int .u8 0, .int .u8 0, .int .u8 0, .int .u8 0, .int .u8 0, .int .u8 0, .int .u8 0, .int .u8 0, .int .u8 0, .int .u8 0, .int .u8 0, .int .u8 0, .int .u8 0, .int .u8 0, .int .u8 0, .int .u8 0, .int .u8 0, .int .u8 0, .int .u8 0,
 .int .u8 0, .int .u8 0, .int .u8 0, .int .u8 0, .int .u8 0, .int .u8 0, .int .u8 0, .int .u8 0, .int .u8 0, .int .u8 0] 0, Blk.mk n_2 32 [Value.int .u8 7, .int .u8 0, .int .u8 0, .int .u8 0, .int .u8 0, .int .u8 0, .int .u8 0, .int .u8 0, .int .u8 0, .int .u8 0, .int .u8 0, .int .u8 0, .int .u8 0, .int .u8 0, .int .u8 0, .int .u8 0, .int .u8 0, .int .u8 0, .int .u8 0, .int .u8 0, .int .u8 0, .int .u8 0, .int .u8 0, .int .u8 0, .int .u8 0, .int .u8 0, .int .u8 0, .int .u8 0, .int .u8 0, .int .u8 0, .int .u8 0, .int .u8 0] 0, Blk.mk n_1 45 [Value.int .u8 2, .int .u8 0, .int .u8 0, .int .u8 0, .int .u8 0, .int .u8 0, .int .u8 0, .int .u8 0, .int .u8 0, .int .u8 0, .int .u8 0, .int .u8 0, .int .u8 0, .int .u8 0, .int .u8 0, .int .u8 0] 0, Blk.mk n 45 [Value.int .u8 1, .int .u8 0, .int .u8 0, .int .u8 0, .int .u8 0, .int .u8 0, .int .u8 0, .int .u8 0, .int .u8 0, .int .u8 0,
 .int .u8 0, .int .u8 0, .int .u8 0, .int .u8 0, .int .u8 0, .int .u8 0] 0] w' W -> CallsS Tryz.prog 19 #[.pointer x, .agg #[.int .u8 3, .int .u8 0, .int .u8 0, .int .u8 0, .int .u8 0, .int .u8 0, .int .u8 0, .int .u8 0, .int .u8 0, .int .u8 0, .int .u8 0, .int .u8 0, .int .u8 0, .int .u8 0, .int .u8 0, .int .u8 0, .int .u8 0, .int .u8 0, .int .u8 0, .int .u8 0, .int .u8 0, .int .u8 0, .int .u8 0, .int .u8 0, .int .u8 0, .int .u8 0, .int .u8 0, .int .u8 0, .int .u8 0, .int .u8 0, .int .u8 0, .int .u8 0], .string (ByteArray.mk #[103]), .agg #[.int .u8 2, .int .u8 0, .int .u8 0, .int .u8 0, .int .u8 0, .int .u8 0, .int .u8 0, .int .u8 0, .int .u8 0, .int .u8 0, .int .u8 0, .int .u8 0, .int .u8 0, .int .u8 0, .int .u8 0, .int .u8 0], .int .i64 79] W fun (e : Ending) (w' : World) => ∃ (x_26 : Int) (f_6 : Nat -> Int), ∃ (x_27 : ByteArray) (x_28 : Int) (x_29 : Bool),
 ∃ (p : Option Addr) (n_8 : Nat), ∃ (c : Nat) (x_30 : ByteArray), ∃ (x_31 : Int) (x_32 : Int), ∃ (f_7 : Nat -> Int) (x_33 : Int), e = .returned (.tuple #[.agg ([Value.int .i64 x_26] ++ arrI .u8 f_6 32 0 ++ ([Value.string x_27, .int .i64 x_28, .bool x_29, .slice p n_8 c, .string x_30, .int .i64 x_31, .int .i64 x_32] ++ arrI .u8 f_7 16 0)).toArray, .int .i64 x_33]) /\ KeptL [n_7, n_6, n_5, n_3, n_2, n_1, n] W w' /\ ∀ (n_9 : Nat) (W : World), Loc w.heap.size [Blk.mk n_9 42 ([Value.int .i64 x_26] ++ arrI .u8 f_6 32 0 ++ ([Value.string x_27, .int .i64 x_28, .bool x_29, .slice p n_8 c, .string x_30, .int .i64 x_31, .int .i64 x_32] ++ arrI .u8 f_7 16 0)) (wrM 2), Blk.mk n_7 48 (arrI .u8 f_4 32 0 ++ ([Value.string x_19, .string x_20, .int .i64 x_21, .int .i64 x_22] ++ arrI .u8 f_5 16 0 ++ [Value.int .i64 x_23, .string x_24])) 0, Blk.mk n_6 48
 (arrI .u8 f_2 32 0 ++ ([Value.string x_12, .string x_13, .int .i64 x_14, .int .i64 x_15] ++ arrI .u8 f_3 16 0 ++ [Value.int .i64 x_16, .string x_17])) 0, Blk.mk n_5 48 (arrI .u8 f 32 0 ++ ([Value.string x_5, .string x_6, .int .i64 x_7, .int .i64 x_8] ++ arrI .u8 f_1 16 0 ++ [Value.int .i64 x_9, .string x_10])) 0, Blk.mk n_3 32 [Value.int .u8 3, .int .u8 0, .int .u8 0, .int .u8 0, .int .u8 0, .int .u8 0, .int .u8 0, .int .u8 0, .int .u8 0, .int .u8 0, .int .u8 0, .int .u8 0, .int .u8 0, .int .u8 0, .int .u8 0, .int .u8 0, .int .u8 0, .int .u8 0, .int .u8 0, .int .u8 0, .int .u8 0, .int .u8 0, .int .u8 0, .int .u8 0, .int .u8 0, .int .u8 0, .int .u8 0, .int .u8 0, .int .u8 0, .int .u8 0, .int .u8 0, .int .u8 0] 0, Blk.mk n_2 32 [Value.int .u8 7, .int .u8 0, .int .u8 0, .int .u8 0, .int .u8 0, .int .u8 0, .int .u8 0, .int .u8 0, .int .u8 0, .int .u8 0, .int .u8 0, .int .u8 0, .int .u8 0,
 .int .u8 0, .int .u8 0, .int .u8 0, .int .u8 0, .int .u8 0, .int .u8 0, .int .u8 0, .int .u8 0, .int .u8 0, .int .u8 0, .int .u8 0, .int .u8 0, .int .u8 0, .int .u8 0, .int .u8 0, .int .u8 0, .int .u8 0, .int .u8 0, .int .u8 0] 0, Blk.mk n_1 45 [Value.int .u8 2, .int .u8 0, .int .u8 0, .int .u8 0, .int .u8 0, .int .u8 0, .int .u8 0, .int .u8 0, .int .u8 0, .int .u8 0, .int .u8 0, .int .u8 0, .int .u8 0, .int .u8 0, .int .u8 0, .int .u8 0] 0, Blk.mk n 45 [Value.int .u8 1, .int .u8 0, .int .u8 0, .int .u8 0, .int .u8 0, .int .u8 0, .int .u8 0, .int .u8 0, .int .u8 0, .int .u8 0, .int .u8 0, .int .u8 0, .int .u8 0, .int .u8 0, .int .u8 0, .int .u8 0] 0] w' W -> CallsS Tryz.prog 19 #[.pointer x, .agg #[.int .u8 3, .int .u8 0, .int .u8 0, .int .u8 0, .int .u8 0, .int .u8 0, .int .u8 0, .int .u8 0, .int .u8 0, .int .u8 0, .int .u8 0, .int .u8 0, .int .u8 0, .int .u8 0, .int .u8 0,
 .int .u8 0, .int .u8 0, .int .u8 0, .int .u8 0, .int .u8 0, .int .u8 0, .int .u8 0, .int .u8 0, .int .u8 0, .int .u8 0, .int .u8 0, .int .u8 0, .int .u8 0, .int .u8 0, .int .u8 0, .int .u8 0, .int .u8 0], .string (ByteArray.mk #[103]), .agg #[.int .u8 2, .int .u8 0, .int .u8 0, .int .u8 0, .int .u8 0, .int .u8 0, .int .u8 0, .int .u8 0, .int .u8 0, .int .u8 0, .int .u8 0, .int .u8 0, .int .u8 0, .int .u8 0, .int .u8 0, .int .u8 0], .int .i64 80] W fun (e : Ending) (w' : World) => ∃ (x_34 : Int) (f_8 : Nat -> Int), ∃ (x_35 : ByteArray) (x_36 : Int), ∃ (x_37 : Bool) (p_1 : Option Addr), ∃ (n_10 : Nat) (c_1 : Nat), ∃ (x_38 : ByteArray) (x_39 : Int), ∃ (x_40 : Int) (f_9 : Nat -> Int) (x_41 : Int), e = .returned (.tuple #[.agg ([Value.int .i64 x_34] ++ arrI .u8 f_8 32 0 ++ ([Value.string x_35, .int .i64 x_36, .bool x_37, .slice p_1 n_10 c_1, .string x_38, .int
 .i64 x_39, .int .i64 x_40] ++ arrI .u8 f_9 16 0)).toArray, .int .i64 x_41]) /\ KeptL [n_9, n_7, n_6, n_5, n_3, n_2, n_1, n] W w' /\ ∀ (n_11 : Nat), ∃ (f_10 : Nat -> Int), gimp (x_2 == 0 && x_3 == 0 && x_4 == 0 && x_11 == 0) (∀ (W : World), Loc w.heap.size [Blk.mk n_11 42 ([Value.int .i64 x_34] ++ arrI .u8 f_8 32 0 ++ ([Value.string x_35, .int .i64 x_36, .bool x_37, .slice p_1 n_10 c_1, .string x_38, .int .i64 x_39, .int .i64 x_40] ++ arrI .u8 f_9 16 0)) (wrM 2), Blk.mk n_9 42 ([Value.int .i64 x_26] ++ arrI .u8 f_6 32 0 ++ ([Value.string x_27, .int .i64 x_28, .bool x_29, .slice p n_8 c, .string x_30, .int .i64 x_31, .int .i64 x_32] ++ arrI .u8 f_7 16 0)) 0, Blk.mk n_7 48 (arrI .u8 f_4 32 0 ++ ([Value.string x_19, .string x_20, .int .i64 x_21, .int .i64 x_22] ++ arrI .u8 f_5 16 0 ++ [Value.int .i64 x_23, .string x_24])) 0, Blk.mk n_6 48 (arrI .u8 f_2 32 0 ++ ([Value.string x_12, .string
 x_13, .int .i64 x_14, .int .i64 x_15] ++ arrI .u8 f_3 16 0 ++ [Value.int .i64 x_16, .string x_17])) 0, Blk.mk n_5 48 (arrI .u8 f 32 0 ++ ([Value.string x_5, .string x_6, .int .i64 x_7, .int .i64 x_8] ++ arrI .u8 f_1 16 0 ++ [Value.int .i64 x_9, .string x_10])) 0, Blk.mk n_3 32 [Value.int .u8 3, .int .u8 0, .int .u8 0, .int .u8 0, .int .u8 0, .int .u8 0, .int .u8 0, .int .u8 0, .int .u8 0, .int .u8 0, .int .u8 0, .int .u8 0, .int .u8 0, .int .u8 0, .int .u8 0, .int .u8 0, .int .u8 0, .int .u8 0, .int .u8 0, .int .u8 0, .int .u8 0, .int .u8 0, .int .u8 0, .int .u8 0, .int .u8 0, .int .u8 0, .int .u8 0, .int .u8 0, .int .u8 0, .int .u8 0, .int .u8 0, .int .u8 0] 0, Blk.mk n_2 32 [Value.int .u8 7, .int .u8 0, .int .u8 0, .int .u8 0, .int .u8 0, .int .u8 0, .int .u8 0, .int .u8 0, .int .u8 0, .int .u8 0, .int .u8 0, .int .u8 0, .int .u8 0, .int .u8 0, .int .u8 0, .int .u8 0, .int .u8 0,
 .int .u8 0, .int .u8 0, .int .u8 0, .int .u8 0, .int .u8 0, .int .u8 0, .int .u8 0, .int .u8 0, .int .u8 0, .int .u8 0, .int .u8 0, .int .u8 0, .int .u8 0, .int .u8 0, .int .u8 0] 0, Blk.mk n_1 45 [Value.int .u8 2, .int .u8 0, .int .u8 0, .int .u8 0, .int .u8 0, .int .u8 0, .int .u8 0, .int .u8 0, .int .u8 0, .int .u8 0, .int .u8 0, .int .u8 0, .int .u8 0, .int .u8 0, .int .u8 0, .int .u8 0] 0, Blk.mk n 45 [Value.int .u8 1, .int .u8 0, .int .u8 0, .int .u8 0, .int .u8 0, .int .u8 0, .int .u8 0, .int .u8 0, .int .u8 0, .int .u8 0, .int .u8 0, .int .u8 0, .int .u8 0, .int .u8 0, .int .u8 0, .int .u8 0] 0] w' W -> AtL W n_5 0 (arrI .u8 f_10 32 0)) /\ ∃ (r : Bool), gimp (x_2 == 0 && x_3 == 0 && x_4 == 0 && x_11 == 0) (EqP Tryz.prog 32 (.agg (arrI .u8 f_10 32 0).toArray) (.agg #[.int .u8 3, .int .u8 0, .int .u8 0, .int .u8 0, .int .u8 0, .int .u8 0, .int .u8 0, .int .u8 0, .int .u8 0, .int
 .u8 0, .int .u8 0, .int .u8 0, .int .u8 0, .int .u8 0, .int .u8 0, .int .u8 0, .int .u8 0, .int .u8 0, .int .u8 0, .int .u8 0, .int .u8 0, .int .u8 0, .int .u8 0, .int .u8 0, .int .u8 0, .int .u8 0, .int .u8 0, .int .u8 0, .int .u8 0, .int .u8 0, .int .u8 0, .int .u8 0]) r) /\ ∃ (x_42 : ByteArray), gimp (x_2 == 0 && x_3 == 0 && x_4 == 0 && x_11 == 0 && r) (∀ (W : World), Loc w.heap.size [Blk.mk n_11 42 ([Value.int .i64 x_34] ++ arrI .u8 f_8 32 0 ++ ([Value.string x_35, .int .i64 x_36, .bool x_37, .slice p_1 n_10 c_1, .string x_38, .int .i64 x_39, .int .i64 x_40] ++ arrI .u8 f_9 16 0)) (wrM 2), Blk.mk n_9 42 ([Value.int .i64 x_26] ++ arrI .u8 f_6 32 0 ++ ([Value.string x_27, .int .i64 x_28, .bool x_29, .slice p n_8 c, .string x_30, .int .i64 x_31, .int .i64 x_32] ++ arrI .u8 f_7 16 0)) 0, Blk.mk n_7 48 (arrI .u8 f_4 32 0 ++ ([Value.string x_19, .string x_20, .int .i64 x_21, .int .i64
 x_22] ++ arrI .u8 f_5 16 0 ++ [Value.int .i64 x_23, .string x_24])) 0, Blk.mk n_6 48 (arrI .u8 f_2 32 0 ++ ([Value.string x_12, .string x_13, .int .i64 x_14, .int .i64 x_15] ++ arrI .u8 f_3 16 0 ++ [Value.int .i64 x_16, .string x_17])) 0, Blk.mk n_5 48 (arrI .u8 f 32 0 ++ ([Value.string x_5, .string x_6, .int .i64 x_7, .int .i64 x_8] ++ arrI .u8 f_1 16 0 ++ [Value.int .i64 x_9, .string x_10])) 0, Blk.mk n_3 32 [Value.int .u8 3, .int .u8 0, .int .u8 0, .int .u8 0, .int .u8 0, .int .u8 0, .int .u8 0, .int .u8 0, .int .u8 0, .int .u8 0, .int .u8 0, .int .u8 0, .int .u8 0, .int .u8 0, .int .u8 0, .int .u8 0, .int .u8 0, .int .u8 0, .int .u8 0, .int .u8 0, .int .u8 0, .int .u8 0, .int .u8 0, .int .u8 0, .int .u8 0, .int .u8 0, .int .u8 0, .int .u8 0, .int .u8 0, .int .u8 0, .int .u8 0, .int .u8 0] 0, Blk.mk n_2 32 [Value.int .u8 7, .int .u8 0, .int .u8 0, .int .u8 0, .int .u8 0, .int .u8 0,
 .int .u8 0, .int .u8 0, .int .u8 0, .int .u8 0, .int .u8 0, .int .u8 0, .int .u8 0, .int .u8 0, .int .u8 0, .int .u8 0, .int .u8 0, .int .u8 0, .int .u8 0, .int .u8 0, .int .u8 0, .int .u8 0, .int .u8 0, .int .u8 0, .int .u8 0, .int .u8 0, .int .u8 0, .int .u8 0, .int .u8 0, .int .u8 0, .int .u8 0, .int .u8 0] 0, Blk.mk n_1 45 [Value.int .u8 2, .int .u8 0, .int .u8 0, .int .u8 0, .int .u8 0, .int .u8 0, .int .u8 0, .int .u8 0, .int .u8 0, .int .u8 0, .int .u8 0, .int .u8 0, .int .u8 0, .int .u8 0, .int .u8 0, .int .u8 0] 0, Blk.mk n 45 [Value.int .u8 1, .int .u8 0, .int .u8 0, .int .u8 0, .int .u8 0, .int .u8 0, .int .u8 0, .int .u8 0, .int .u8 0, .int .u8 0, .int .u8 0, .int .u8 0, .int .u8 0, .int .u8 0, .int .u8 0, .int .u8 0] 0] w' W -> W.cell? (Addr.mk n_5 (0 + 33) none) = some (.string x_42)) /\ ∃ (f_11 : Nat -> Int), gimp (x_2 == 0 && x_3 == 0 && x_4 == 0 && x_11 == 0 && r &&
 x_42.toList == [(ByteArray.mk #[116, 101, 120, 116, 32, 111, 102, 32, 121]).get! 0, (ByteArray.mk #[116, 101, 120, 116, 32, 111, 102, 32, 121]).get! 1, (ByteArray.mk #[116, 101, 120, 116, 32, 111, 102, 32, 121]).get! 2, (ByteArray.mk #[116, 101, 120, 116, 32, 111, 102, 32, 121]).get! 3, (ByteArray.mk #[116, 101, 120, 116, 32, 111, 102, 32, 121]).get! 4, (ByteArray.mk #[116, 101, 120, 116, 32, 111, 102, 32, 121]).get! 5, (ByteArray.mk #[116, 101, 120, 116, 32, 111, 102, 32, 121]).get! 6, (ByteArray.mk #[116, 101, 120, 116, 32, 111, 102, 32, 121]).get! 7, (ByteArray.mk #[116, 101, 120, 116, 32, 111, 102, 32, 121]).get! 8]) (∀ (W : World), Loc w.heap.size [Blk.mk n_11 42 ([Value.int .i64 x_34] ++ arrI .u8 f_8 32 0 ++ ([Value.string x_35, .int .i64 x_36, .bool x_37, .slice p_1 n_10 c_1, .string x_38, .int .i64 x_39, .int .i64 x_40] ++ arrI .u8 f_9 16 0)) (wrM 2), Blk.mk n_9 42 ([Value.int
 .i64 x_26] ++ arrI .u8 f_6 32 0 ++ ([Value.string x_27, .int .i64 x_28, .bool x_29, .slice p n_8 c, .string x_30, .int .i64 x_31, .int .i64 x_32] ++ arrI .u8 f_7 16 0)) 0, Blk.mk n_7 48 (arrI .u8 f_4 32 0 ++ ([Value.string x_19, .string x_20, .int .i64 x_21, .int .i64 x_22] ++ arrI .u8 f_5 16 0 ++ [Value.int .i64 x_23, .string x_24])) 0, Blk.mk n_6 48 (arrI .u8 f_2 32 0 ++ ([Value.string x_12, .string x_13, .int .i64 x_14, .int .i64 x_15] ++ arrI .u8 f_3 16 0 ++ [Value.int .i64 x_16, .string x_17])) 0, Blk.mk n_5 48 (arrI .u8 f 32 0 ++ ([Value.string x_5, .string x_6, .int .i64 x_7, .int .i64 x_8] ++ arrI .u8 f_1 16 0 ++ [Value.int .i64 x_9, .string x_10])) 0, Blk.mk n_3 32 [Value.int .u8 3, .int .u8 0, .int .u8 0, .int .u8 0, .int .u8 0, .int .u8 0, .int .u8 0, .int .u8 0, .int .u8 0, .int .u8 0, .int .u8 0, .int .u8 0, .int .u8 0, .int .u8 0, .int .u8 0, .int .u8 0, .int .u8 0, .int
 .u8 0, .int .u8 0, .int .u8 0, .int .u8 0, .int .u8 0, .int .u8 0, .int .u8 0, .int .u8 0, .int .u8 0, .int .u8 0, .int .u8 0, .int .u8 0, .int .u8 0, .int .u8 0, .int .u8 0] 0, Blk.mk n_2 32 [Value.int .u8 7, .int .u8 0, .int .u8 0, .int .u8 0, .int .u8 0, .int .u8 0, .int .u8 0, .int .u8 0, .int .u8 0, .int .u8 0, .int .u8 0, .int .u8 0, .int .u8 0, .int .u8 0, .int .u8 0, .int .u8 0, .int .u8 0, .int .u8 0, .int .u8 0, .int .u8 0, .int .u8 0, .int .u8 0, .int .u8 0, .int .u8 0, .int .u8 0, .int .u8 0, .int .u8 0, .int .u8 0, .int .u8 0, .int .u8 0, .int .u8 0, .int .u8 0] 0, Blk.mk n_1 45 [Value.int .u8 2, .int .u8 0, .int .u8 0, .int .u8 0, .int .u8 0, .int .u8 0, .int .u8 0, .int .u8 0, .int .u8 0, .int .u8 0, .int .u8 0, .int .u8 0, .int .u8 0, .int .u8 0, .int .u8 0, .int .u8 0] 0, Blk.mk n 45 [Value.int .u8 1, .int .u8 0, .int .u8 0, .int .u8 0, .int .u8 0, .int .u8 0, .int .u8
 0, .int .u8 0, .int .u8 0, .int .u8 0, .int .u8 0, .int .u8 0, .int .u8 0, .int .u8 0, .int .u8 0, .int .u8 0] 0] w' W -> AtL W n_6 0 (arrI .u8 f_11 32 0)) /\ ∃ (r_1 : Bool), gimp (x_2 == 0 && x_3 == 0 && x_4 == 0 && x_11 == 0 && r && x_42.toList == [(ByteArray.mk #[116, 101, 120, 116, 32, 111, 102, 32, 121]).get! 0, (ByteArray.mk #[116, 101, 120, 116, 32, 111, 102, 32, 121]).get! 1, (ByteArray.mk #[116, 101, 120, 116, 32, 111, 102, 32, 121]).get! 2, (ByteArray.mk #[116, 101, 120, 116, 32, 111, 102, 32, 121]).get! 3, (ByteArray.mk #[116, 101, 120, 116, 32, 111, 102, 32, 121]).get! 4, (ByteArray.mk #[116, 101, 120, 116, 32, 111, 102, 32, 121]).get! 5, (ByteArray.mk #[116, 101, 120, 116, 32, 111, 102, 32, 121]).get! 6, (ByteArray.mk #[116, 101, 120, 116, 32, 111, 102, 32, 121]).get! 7, (ByteArray.mk #[116, 101, 120, 116, 32, 111, 102, 32, 121]).get! 8]) (EqP Tryz.prog 32 (.agg
 (arrI .u8 f_11 32 0).toArray) (.agg #[.int .u8 3, .int .u8 0, .int .u8 0, .int .u8 0, .int .u8 0, .int .u8 0, .int .u8 0, .int .u8 0, .int .u8 0, .int .u8 0, .int .u8 0, .int .u8 0, .int .u8 0, .int .u8 0, .int .u8 0, .int .u8 0, .int .u8 0, .int .u8 0, .int .u8 0, .int .u8 0, .int .u8 0, .int .u8 0, .int .u8 0, .int .u8 0, .int .u8 0, .int .u8 0, .int .u8 0, .int .u8 0, .int .u8 0, .int .u8 0, .int .u8 0, .int .u8 0]) r_1) /\ ∃ (f_12 : Nat -> Int), gimp (x_2 == 0 && x_3 == 0 && x_4 == 0 && x_11 == 0 && r && x_42.toList == [(ByteArray.mk #[116, 101, 120, 116, 32, 111, 102, 32, 121]).get! 0, (ByteArray.mk #[116, 101, 120, 116, 32, 111, 102, 32, 121]).get! 1, (ByteArray.mk #[116, 101, 120, 116, 32, 111, 102, 32, 121]).get! 2, (ByteArray.mk #[116, 101, 120, 116, 32, 111, 102, 32, 121]).get! 3, (ByteArray.mk #[116, 101, 120, 116, 32, 111, 102, 32, 121]).get! 4, (ByteArray.mk #[116, 101,
 120, 116, 32, 111, 102, 32, 121]).get! 5, (ByteArray.mk #[116, 101, 120, 116, 32, 111, 102, 32, 121]).get! 6, (ByteArray.mk #[116, 101, 120, 116, 32, 111, 102, 32, 121]).get! 7, (ByteArray.mk #[116, 101, 120, 116, 32, 111, 102, 32, 121]).get! 8] && r_1) (∀ (W : World), Loc w.heap.size [Blk.mk n_11 42 ([Value.int .i64 x_34] ++ arrI .u8 f_8 32 0 ++ ([Value.string x_35, .int .i64 x_36, .bool x_37, .slice p_1 n_10 c_1, .string x_38, .int .i64 x_39, .int .i64 x_40] ++ arrI .u8 f_9 16 0)) (wrM 2), Blk.mk n_9 42 ([Value.int .i64 x_26] ++ arrI .u8 f_6 32 0 ++ ([Value.string x_27, .int .i64 x_28, .bool x_29, .slice p n_8 c, .string x_30, .int .i64 x_31, .int .i64 x_32] ++ arrI .u8 f_7 16 0)) 0, Blk.mk n_7 48 (arrI .u8 f_4 32 0 ++ ([Value.string x_19, .string x_20, .int .i64 x_21, .int .i64 x_22] ++ arrI .u8 f_5 16 0 ++ [Value.int .i64 x_23, .string x_24])) 0, Blk.mk n_6 48
 (arrI .u8 f_2 32 0 ++ ([Value.string x_12, .string x_13, .int .i64 x_14, .int .i64 x_15] ++ arrI .u8 f_3 16 0 ++ [Value.int .i64 x_16, .string x_17])) 0, Blk.mk n_5 48 (arrI .u8 f 32 0 ++ ([Value.string x_5, .string x_6, .int .i64 x_7, .int .i64 x_8] ++ arrI .u8 f_1 16 0 ++ [Value.int .i64 x_9, .string x_10])) 0, Blk.mk n_3 32 [Value.int .u8 3, .int .u8 0, .int .u8 0, .int .u8 0, .int .u8 0, .int .u8 0, .int .u8 0, .int .u8 0, .int .u8 0, .int .u8 0, .int .u8 0, .int .u8 0, .int .u8 0, .int .u8 0, .int .u8 0, .int .u8 0, .int .u8 0, .int .u8 0, .int .u8 0, .int .u8 0, .int .u8 0, .int .u8 0, .int .u8 0, .int .u8 0, .int .u8 0, .int .u8 0, .int .u8 0, .int .u8 0, .int .u8 0, .int .u8 0, .int .u8 0, .int .u8 0] 0, Blk.mk n_2 32 [Value.int .u8 7, .int .u8 0, .int .u8 0, .int .u8 0, .int .u8 0, .int .u8 0, .int .u8 0, .int .u8 0, .int .u8 0, .int .u8 0, .int .u8 0, .int .u8 0, .int .u8 0,
 .int .u8 0, .int .u8 0, .int .u8 0, .int .u8 0, .int .u8 0, .int .u8 0, .int .u8 0, .int .u8 0, .int .u8 0, .int .u8 0, .int .u8 0, .int .u8 0, .int .u8 0, .int .u8 0, .int .u8 0, .int .u8 0, .int .u8 0, .int .u8 0, .int .u8 0] 0, Blk.mk n_1 45 [Value.int .u8 2, .int .u8 0, .int .u8 0, .int .u8 0, .int .u8 0, .int .u8 0, .int .u8 0, .int .u8 0, .int .u8 0, .int .u8 0, .int .u8 0, .int .u8 0, .int .u8 0, .int .u8 0, .int .u8 0, .int .u8 0] 0, Blk.mk n 45 [Value.int .u8 1, .int .u8 0, .int .u8 0, .int .u8 0, .int .u8 0, .int .u8 0, .int .u8 0, .int .u8 0, .int .u8 0, .int .u8 0, .int .u8 0, .int .u8 0, .int .u8 0, .int .u8 0, .int .u8 0, .int .u8 0] 0] w' W -> AtL W n_7 0 (arrI .u8 f_12 32 0)) /\ ∃ (r_2 : Bool), gimp (x_2 == 0 && x_3 == 0 && x_4 == 0 && x_11 == 0 && r && x_42.toList == [(ByteArray.mk #[116, 101, 120, 116, 32, 111, 102, 32, 121]).get! 0, (ByteArray.mk #[116, 101, 120,
 116, 32, 111, 102, 32, 121]).get! 1, (ByteArray.mk #[116, 101, 120, 116, 32, 111, 102, 32, 121]).get! 2, (ByteArray.mk #[116, 101, 120, 116, 32, 111, 102, 32, 121]).get! 3, (ByteArray.mk #[116, 101, 120, 116, 32, 111, 102, 32, 121]).get! 4, (ByteArray.mk #[116, 101, 120, 116, 32, 111, 102, 32, 121]).get! 5, (ByteArray.mk #[116, 101, 120, 116, 32, 111, 102, 32, 121]).get! 6, (ByteArray.mk #[116, 101, 120, 116, 32, 111, 102, 32, 121]).get! 7, (ByteArray.mk #[116, 101, 120, 116, 32, 111, 102, 32, 121]).get! 8] && r_1) (EqP Tryz.prog 32 (.agg (arrI .u8 f_12 32 0).toArray) (.agg #[.int .u8 7, .int .u8 0, .int .u8 0, .int .u8 0, .int .u8 0, .int .u8 0, .int .u8 0, .int .u8 0, .int .u8 0, .int .u8 0, .int .u8 0, .int .u8 0, .int .u8 0, .int .u8 0, .int .u8 0, .int .u8 0, .int .u8 0, .int .u8 0, .int .u8 0, .int .u8 0, .int .u8 0, .int .u8 0, .int .u8 0, .int .u8 0, .int .u8 0, .int .u8 0,
 .int .u8 0, .int .u8 0, .int .u8 0, .int .u8 0, .int .u8 0, .int .u8 0]) r_2) /\ ∃ (x_43 : Int), gimp (x_2 == 0 && x_3 == 0 && x_4 == 0 && x_11 == 0 && r && x_42.toList == [(ByteArray.mk #[116, 101, 120, 116, 32, 111, 102, 32, 121]).get! 0, (ByteArray.mk #[116, 101, 120, 116, 32, 111, 102, 32, 121]).get! 1, (ByteArray.mk #[116, 101, 120, 116, 32, 111, 102, 32, 121]).get! 2, (ByteArray.mk #[116, 101, 120, 116, 32, 111, 102, 32, 121]).get! 3, (ByteArray.mk #[116, 101, 120, 116, 32, 111, 102, 32, 121]).get! 4, (ByteArray.mk #[116, 101, 120, 116, 32, 111, 102, 32, 121]).get! 5, (ByteArray.mk #[116, 101, 120, 116, 32, 111, 102, 32, 121]).get! 6, (ByteArray.mk #[116, 101, 120, 116, 32, 111, 102, 32, 121]).get! 7, (ByteArray.mk #[116, 101, 120, 116, 32, 111, 102, 32, 121]).get! 8] && r_1 && r_2 && x_33 == 25 && x_41 == 0) (∀ (W : World), Loc w.heap.size [Blk.mk n_11 42 ([Value.int .i64
 x_34] ++ arrI .u8 f_8 32 0 ++ ([Value.string x_35, .int .i64 x_36, .bool x_37, .slice p_1 n_10 c_1, .string x_38, .int .i64 x_39, .int .i64 x_40] ++ arrI .u8 f_9 16 0)) (wrM 2), Blk.mk n_9 42 ([Value.int .i64 x_26] ++ arrI .u8 f_6 32 0 ++ ([Value.string x_27, .int .i64 x_28, .bool x_29, .slice p n_8 c, .string x_30, .int .i64 x_31, .int .i64 x_32] ++ arrI .u8 f_7 16 0)) 0, Blk.mk n_7 48 (arrI .u8 f_4 32 0 ++ ([Value.string x_19, .string x_20, .int .i64 x_21, .int .i64 x_22] ++ arrI .u8 f_5 16 0 ++ [Value.int .i64 x_23, .string x_24])) 0, Blk.mk n_6 48 (arrI .u8 f_2 32 0 ++ ([Value.string x_12, .string x_13, .int .i64 x_14, .int .i64 x_15] ++ arrI .u8 f_3 16 0 ++ [Value.int .i64 x_16, .string x_17])) 0, Blk.mk n_5 48 (arrI .u8 f 32 0 ++ ([Value.string x_5, .string x_6, .int .i64 x_7, .int .i64 x_8] ++ arrI .u8 f_1 16 0 ++ [Value.int .i64 x_9, .string x_10])) 0, Blk.mk n_3 32 [Value.int
 .u8 3, .int .u8 0, .int .u8 0, .int .u8 0, .int .u8 0, .int .u8 0, .int .u8 0, .int .u8 0, .int .u8 0, .int .u8 0, .int .u8 0, .int .u8 0, .int .u8 0, .int .u8 0, .int .u8 0, .int .u8 0, .int .u8 0, .int .u8 0, .int .u8 0, .int .u8 0, .int .u8 0, .int .u8 0, .int .u8 0, .int .u8 0, .int .u8 0, .int .u8 0, .int .u8 0, .int .u8 0, .int .u8 0, .int .u8 0, .int .u8 0, .int .u8 0] 0, Blk.mk n_2 32 [Value.int .u8 7, .int .u8 0, .int .u8 0, .int .u8 0, .int .u8 0, .int .u8 0, .int .u8 0, .int .u8 0, .int .u8 0, .int .u8 0, .int .u8 0, .int .u8 0, .int .u8 0, .int .u8 0, .int .u8 0, .int .u8 0, .int .u8 0, .int .u8 0, .int .u8 0, .int .u8 0, .int .u8 0, .int .u8 0, .int .u8 0, .int .u8 0, .int .u8 0, .int .u8 0, .int .u8 0, .int .u8 0, .int .u8 0, .int .u8 0, .int .u8 0, .int .u8 0] 0, Blk.mk n_1 45 [Value.int .u8 2, .int .u8 0, .int .u8 0, .int .u8 0, .int .u8 0, .int .u8 0, .int .u8 0, .int
 .u8 0, .int .u8 0, .int .u8 0, .int .u8 0, .int .u8 0, .int .u8 0, .int .u8 0, .int .u8 0, .int .u8 0] 0, Blk.mk n 45 [Value.int .u8 1, .int .u8 0, .int .u8 0, .int .u8 0, .int .u8 0, .int .u8 0, .int .u8 0, .int .u8 0, .int .u8 0, .int .u8 0, .int .u8 0, .int .u8 0, .int .u8 0, .int .u8 0, .int .u8 0, .int .u8 0] 0] w' W -> W.cell? (Addr.mk n_11 0 none) = some (.int .i64 x_43)) /\ ∃ (f_13 : Nat -> Int), gimp (x_2 == 0 && x_3 == 0 && x_4 == 0 && x_11 == 0 && r && x_42.toList == [(ByteArray.mk #[116, 101, 120, 116, 32, 111, 102, 32, 121]).get! 0, (ByteArray.mk #[116, 101, 120, 116, 32, 111, 102, 32, 121]).get! (0 + 1), (ByteArray.mk #[116, 101, 120, 116, 32, 111, 102, 32, 121]).get! 2, (ByteArray.mk #[116, 101, 120, 116, 32, 111, 102, 32, 121]).get! 3, (ByteArray.mk #[116, 101, 120, 116, 32, 111, 102, 32, 121]).get! 4, (ByteArray.mk #[116, 101, 120, 116, 32, 111, 102, 32, 121]).get! 5,
 (ByteArray.mk #[116, 101, 120, 116, 32, 111, 102, 32, 121]).get! 6, (ByteArray.mk #[116, 101, 120, 116, 32, 111, 102, 32, 121]).get! 7, (ByteArray.mk #[116, 101, 120, 116, 32, 111, 102, 32, 121]).get! 8] && r_1 && r_2 && x_33 == 25 && x_41 == 0 && x_43 == 2) (∀ (W : World), Loc w.heap.size [Blk.mk n_11 42 ([Value.int .i64 x_34] ++ arrI .u8 f_8 32 0 ++ ([Value.string x_35, .int .i64 x_36, .bool x_37, .slice p_1 n_10 c_1, .string x_38, .int .i64 x_39, .int .i64 x_40] ++ arrI .u8 f_9 16 0)) (wrM 2), Blk.mk n_9 42 ([Value.int .i64 x_26] ++ arrI .u8 f_6 32 0 ++ ([Value.string x_27, .int .i64 x_28, .bool x_29, .slice p n_8 c, .string x_30, .int .i64 x_31, .int .i64 x_32] ++ arrI .u8 f_7 16 0)) 0, Blk.mk n_7 48 (arrI .u8 f_4 32 0 ++ ([Value.string x_19, .string x_20, .int .i64 x_21, .int .i64 x_22] ++ arrI .u8 f_5 16 0 ++ [Value.int .i64 x_23, .string x_24])) 0, Blk.mk n_6 48
 (arrI .u8 f_2 32 0 ++ ([Value.string x_12, .string x_13, .int .i64 x_14, .int .i64 x_15] ++ arrI .u8 f_3 16 0 ++ [Value.int .i64 x_16, .string x_17])) 0, Blk.mk n_5 48 (arrI .u8 f 32 0 ++ ([Value.string x_5, .string x_6, .int .i64 x_7, .int .i64 x_8] ++ arrI .u8 f_1 16 0 ++ [Value.int .i64 x_9, .string x_10])) 0, Blk.mk n_3 32 [Value.int .u8 3, .int .u8 0, .int .u8 0, .int .u8 0, .int .u8 0, .int .u8 0, .int .u8 0, .int .u8 0, .int .u8 0, .int .u8 0, .int .u8 0, .int .u8 0, .int .u8 0, .int .u8 0, .int .u8 0, .int .u8 0, .int .u8 0, .int .u8 0, .int .u8 0, .int .u8 0, .int .u8 0, .int .u8 0, .int .u8 0, .int .u8 0, .int .u8 0, .int .u8 0, .int .u8 0, .int .u8 0, .int .u8 0, .int .u8 0, .int .u8 0, .int .u8 0] 0, Blk.mk n_2 32 [Value.int .u8 7, .int .u8 0, .int .u8 0, .int .u8 0, .int .u8 0, .int .u8 0, .int .u8 0, .int .u8 0, .int .u8 0, .int .u8 0, .int .u8 0, .int .u8 0, .int .u8 0,
 .int .u8 0, .int .u8 0, .int .u8 0, .int .u8 0, .int .u8 0, .int .u8 0, .int .u8 0, .int .u8 0, .int .u8 0, .int .u8 0, .int .u8 0, .int .u8 0, .int .u8 0, .int .u8 0, .int .u8 0, .int .u8 0, .int .u8 0, .int .u8 0, .int .u8 0] 0, Blk.mk n_1 45 [Value.int .u8 2, .int .u8 0, .int .u8 0, .int .u8 0, .int .u8 0, .int .u8 0, .int .u8 0, .int .u8 0, .int .u8 0, .int .u8 0, .int .u8 0, .int .u8 0, .int .u8 0, .int .u8 0, .int .u8 0, .int .u8 0] 0, Blk.mk n 45 [Value.int .u8 1, .int .u8 0, .int .u8 0, .int .u8 0, .int .u8 0, .int .u8 0, .int .u8 0, .int .u8 0, .int .u8 0, .int .u8 0, .int .u8 0, .int .u8 0, .int .u8 0, .int .u8 0, .int .u8 0, .int .u8 0] 0] w' W -> AtL W n_11 (0 + 1) (arrI .u8 f_13 32 0)) /\ ∃ (r_3 : Bool), gimp (x_2 == 0 && x_3 == 0 && x_4 == 0 && x_11 == 0 && r && x_42.toList == [(ByteArray.mk #[116, 101, 120, 116, 32, 111, 102, 32, 121]).get! 0, (ByteArray.mk #[116, 101,
 120, 116, 32, 111, 102, 32, 121]).get! (0 + 1), (ByteArray.mk #[116, 101, 120, 116, 32, 111, 102, 32, 121]).get! 2, (ByteArray.mk #[116, 101, 120, 116, 32, 111, 102, 32, 121]).get! 3, (ByteArray.mk #[116, 101, 120, 116, 32, 111, 102, 32, 121]).get! 4, (ByteArray.mk #[116, 101, 120, 116, 32, 111, 102, 32, 121]).get! 5, (ByteArray.mk #[116, 101, 120, 116, 32, 111, 102, 32, 121]).get! 6, (ByteArray.mk #[116, 101, 120, 116, 32, 111, 102, 32, 121]).get! 7, (ByteArray.mk #[116, 101, 120, 116, 32, 111, 102, 32, 121]).get! 8] && r_1 && r_2 && x_33 == 25 && x_41 == 0 && x_43 == 2) (EqP Tryz.prog 32 (.agg (arrI .u8 f_13 32 0).toArray) (.agg #[.int .u8 3, .int .u8 0, .int .u8 0, .int .u8 0, .int .u8 0, .int .u8 0, .int .u8 0, .int .u8 0, .int .u8 0, .int .u8 0, .int .u8 0, .int .u8 0, .int .u8 0, .int .u8 0, .int .u8 0, .int .u8 0, .int .u8 0, .int .u8 0, .int .u8 0, .int .u8 0, .int .u8 0, .int
 .u8 0, .int .u8 0, .int .u8 0, .int .u8 0, .int .u8 0, .int .u8 0, .int .u8 0, .int .u8 0, .int .u8 0, .int .u8 0, .int .u8 0]) r_3) /\ ∃ (x_44 : ByteArray), gimp (x_2 == 0 && x_3 == 0 && x_4 == 0 && x_11 == 0 && r && x_42.toList == [(ByteArray.mk #[116, 101, 120, 116, 32, 111, 102, 32, 121]).get! 0, (ByteArray.mk #[116, 101, 120, 116, 32, 111, 102, 32, 121]).get! (0 + 1), (ByteArray.mk #[116, 101, 120, 116, 32, 111, 102, 32, 121]).get! 2, (ByteArray.mk #[116, 101, 120, 116, 32, 111, 102, 32, 121]).get! 3, (ByteArray.mk #[116, 101, 120, 116, 32, 111, 102, 32, 121]).get! 4, (ByteArray.mk #[116, 101, 120, 116, 32, 111, 102, 32, 121]).get! 5, (ByteArray.mk #[116, 101, 120, 116, 32, 111, 102, 32, 121]).get! 6, (ByteArray.mk #[116, 101, 120, 116, 32, 111, 102, 32, 121]).get! 7, (ByteArray.mk #[116, 101, 120, 116, 32, 111, 102, 32, 121]).get! 8] && r_1 && r_2 && x_33 == 25 && x_41 == 0 &&
 x_43 == 2 && r_3) (∀ (W : World), Loc w.heap.size [Blk.mk n_11 42 ([Value.int .i64 x_34] ++ arrI .u8 f_8 32 0 ++ ([Value.string x_35, .int .i64 x_36, .bool x_37, .slice p_1 n_10 c_1, .string x_38, .int .i64 x_39, .int .i64 x_40] ++ arrI .u8 f_9 16 0)) (wrM 2), Blk.mk n_9 42 ([Value.int .i64 x_26] ++ arrI .u8 f_6 32 0 ++ ([Value.string x_27, .int .i64 x_28, .bool x_29, .slice p n_8 c, .string x_30, .int .i64 x_31, .int .i64 x_32] ++ arrI .u8 f_7 16 0)) 0, Blk.mk n_7 48 (arrI .u8 f_4 32 0 ++ ([Value.string x_19, .string x_20, .int .i64 x_21, .int .i64 x_22] ++ arrI .u8 f_5 16 0 ++ [Value.int .i64 x_23, .string x_24])) 0, Blk.mk n_6 48 (arrI .u8 f_2 32 0 ++ ([Value.string x_12, .string x_13, .int .i64 x_14, .int .i64 x_15] ++ arrI .u8 f_3 16 0 ++ [Value.int .i64 x_16, .string x_17])) 0, Blk.mk n_5 48 (arrI .u8 f 32 0 ++ ([Value.string x_5, .string x_6, .int .i64 x_7, .int .i64
 x_8] ++ arrI .u8 f_1 16 0 ++ [Value.int .i64 x_9, .string x_10])) 0, Blk.mk n_3 32 [Value.int .u8 3, .int .u8 0, .int .u8 0, .int .u8 0, .int .u8 0, .int .u8 0, .int .u8 0, .int .u8 0, .int .u8 0, .int .u8 0, .int .u8 0, .int .u8 0, .int .u8 0, .int .u8 0, .int .u8 0, .int .u8 0, .int .u8 0, .int .u8 0, .int .u8 0, .int .u8 0, .int .u8 0, .int .u8 0, .int .u8 0, .int .u8 0, .int .u8 0, .int .u8 0, .int .u8 0, .int .u8 0, .int .u8 0, .int .u8 0, .int .u8 0, .int .u8 0] 0, Blk.mk n_2 32 [Value.int .u8 7, .int .u8 0, .int .u8 0, .int .u8 0, .int .u8 0, .int .u8 0, .int .u8 0, .int .u8 0, .int .u8 0, .int .u8 0, .int .u8 0, .int .u8 0, .int .u8 0, .int .u8 0, .int .u8 0, .int .u8 0, .int .u8 0, .int .u8 0, .int .u8 0, .int .u8 0, .int .u8 0, .int .u8 0, .int .u8 0, .int .u8 0, .int .u8 0, .int .u8 0, .int .u8 0, .int .u8 0, .int .u8 0, .int .u8 0, .int .u8 0, .int .u8 0] 0, Blk.mk n_1 45
 [Value.int .u8 2, .int .u8 0, .int .u8 0, .int .u8 0, .int .u8 0, .int .u8 0, .int .u8 0, .int .u8 0, .int .u8 0, .int .u8 0, .int .u8 0, .int .u8 0, .int .u8 0, .int .u8 0, .int .u8 0, .int .u8 0] 0, Blk.mk n 45 [Value.int .u8 1, .int .u8 0, .int .u8 0, .int .u8 0, .int .u8 0, .int .u8 0, .int .u8 0, .int .u8 0, .int .u8 0, .int .u8 0, .int .u8 0, .int .u8 0, .int .u8 0, .int .u8 0, .int .u8 0, .int .u8 0] 0] w' W -> W.cell? (Addr.mk n_11 (0 + 33) none) = some (.string x_44)) /\ ∀ (W : World), Loc w.heap.size [Blk.mk n_11 42 ([Value.int .i64 x_34] ++ arrI .u8 f_8 32 0 ++ ([Value.string x_35, .int .i64 x_36, .bool x_37, .slice p_1 n_10 c_1, .string x_38, .int .i64 x_39, .int .i64 x_40] ++ arrI .u8 f_9 16 0)) (wrM 2), Blk.mk n_9 42 ([Value.int .i64 x_26] ++ arrI .u8 f_6 32 0 ++ ([Value.string x_27, .int .i64 x_28, .bool x_29, .slice p n_8 c, .string x_30, .int .i64 x_31, .int .i64
 x_32] ++ arrI .u8 f_7 16 0)) 0, Blk.mk n_7 48 (arrI .u8 f_4 32 0 ++ ([Value.string x_19, .string x_20, .int .i64 x_21, .int .i64 x_22] ++ arrI .u8 f_5 16 0 ++ [Value.int .i64 x_23, .string x_24])) 0, Blk.mk n_6 48 (arrI .u8 f_2 32 0 ++ ([Value.string x_12, .string x_13, .int .i64 x_14, .int .i64 x_15] ++ arrI .u8 f_3 16 0 ++ [Value.int .i64 x_16, .string x_17])) 0, Blk.mk n_5 48 (arrI .u8 f 32 0 ++ ([Value.string x_5, .string x_6, .int .i64 x_7, .int .i64 x_8] ++ arrI .u8 f_1 16 0 ++ [Value.int .i64 x_9, .string x_10])) 0, Blk.mk n_3 32 [Value.int .u8 3, .int .u8 0, .int .u8 0, .int .u8 0, .int .u8 0, .int .u8 0, .int .u8 0, .int .u8 0, .int .u8 0, .int .u8 0, .int .u8 0, .int .u8 0, .int .u8 0, .int .u8 0, .int .u8 0, .int .u8 0, .int .u8 0, .int .u8 0, .int .u8 0, .int .u8 0, .int .u8 0, .int .u8 0, .int .u8 0, .int .u8 0, .int .u8 0, .int .u8 0, .int .u8 0, .int .u8 0, .int .u8 0,
 .int .u8 0, .int .u8 0, .int .u8 0] 0, Blk.mk n_2 32 [Value.int .u8 7, .int .u8 0, .int .u8 0, .int .u8 0, .int .u8 0, .int .u8 0, .int .u8 0, .int .u8 0, .int .u8 0, .int .u8 0, .int .u8 0, .int .u8 0, .int .u8 0, .int .u8 0, .int .u8 0, .int .u8 0, .int .u8 0, .int .u8 0, .int .u8 0, .int .u8 0, .int .u8 0, .int .u8 0, .int .u8 0, .int .u8 0, .int .u8 0, .int .u8 0, .int .u8 0, .int .u8 0, .int .u8 0, .int .u8 0, .int .u8 0, .int .u8 0] 0, Blk.mk n_1 45 [Value.int .u8 2, .int .u8 0, .int .u8 0, .int .u8 0, .int .u8 0, .int .u8 0, .int .u8 0, .int .u8 0, .int .u8 0, .int .u8 0, .int .u8 0, .int .u8 0, .int .u8 0, .int .u8 0, .int .u8 0, .int .u8 0] 0, Blk.mk n 45 [Value.int .u8 1, .int .u8 0, .int .u8 0, .int .u8 0, .int .u8 0, .int .u8 0, .int .u8 0, .int .u8 0, .int .u8 0, .int .u8 0, .int .u8 0, .int .u8 0, .int .u8 0, .int .u8 0, .int .u8 0, .int .u8 0] 0] w' W -> bsp (x_2 == 0 &&
 x_3 == 0 && x_4 == 0 && x_11 == 0 && r && x_42.toList == [(ByteArray.mk #[116, 101, 120, 116, 32, 111, 102, 32, 121]).get! 0, (ByteArray.mk #[116, 101, 120, 116, 32, 111, 102, 32, 121]).get! (0 + 1), (ByteArray.mk #[116, 101, 120, 116, 32, 111, 102, 32, 121]).get! 2, (ByteArray.mk #[116, 101, 120, 116, 32, 111, 102, 32, 121]).get! 3, (ByteArray.mk #[116, 101, 120, 116, 32, 111, 102, 32, 121]).get! 4, (ByteArray.mk #[116, 101, 120, 116, 32, 111, 102, 32, 121]).get! 5, (ByteArray.mk #[116, 101, 120, 116, 32, 111, 102, 32, 121]).get! 6, (ByteArray.mk #[116, 101, 120, 116, 32, 111, 102, 32, 121]).get! 7, (ByteArray.mk #[116, 101, 120, 116, 32, 111, 102, 32, 121]).get! 8] && r_1 && r_2 && x_33 == 25 && x_41 == 0 && x_43 == 2 && r_3 && x_44.toList == [(ByteArray.mk #[103]).get! 0]) (CallsS Tryz.prog 15 #[.pointer x, .string (ByteArray.mk #[103]), .int .i64 1] W fun (e : Ending) (w' :
 World) => ∃ (x : Int), e = .returned (.int .i64 x) /\ KeptL [n_11, n_9, n_7, n_6, n_5, n_3, n_2, n_1, n] W w' /\ R (.returned (.bool (true && x == 1))) w') (KeptL [n_11, n_9, n_7, n_6, n_5, n_3, n_2, n_1, n] W W /\ R (.returned (.bool false)) W))
theorem vc_lknown (w : World) (R : Ending -> World -> Prop) (h : VC_lknown w R) : Calls Tryz.prog 14 ([] : List Value).toArray w R :=
 calls_of_exec2' (loops := []) (tails := []) (joins := []) (boxes := []) (rngs := []) (c := Tryz.f14.body.getD .skip) pur1_ok Tryz.func14 (by kernel_rfl) (by kernel_rfl) h

end Go.Proofs.YtfacflbmlfbeeaaGreatDoor

/- Chapter 39: the example of the chapter holds; ModerationNew on worlds. The library's variable MaxLen holds a number. -/
namespace Go.Proofs.YtfacflbmlfbeeaaGreatDoor
open Go.RowKit Go.Sort Go.Maps

theorem kidEq {u v : Int} (hu : 0 ≤ u ∧ u ≤ 255) (hv : 0 ≤ v ∧ v ≤ 255) {r : Bool} (hr : r = decide (idI (k39 u) = idI (k39 v))) : EqP Tryz.prog 32 (.agg (arrI .u8 (k39 u) 32 0).toArray) (.agg (arrI .u8 (k39 v) 32 0).toArray) r := by
  rw [hr]; exact idEqF (k39_BY hu) (k39_BY hv)
set_option maxRecDepth 100000 in
set_option maxHeartbeats 8000000 in
theorem known_any (w : World) (hG : GW w) : Calls Tryz.prog 14 #[] w fun e w' => e = .returned (.bool true) ∧ K0 w w' := by
  have hw0 : 0 < w.heap.size := by
    obtain ⟨m, hm⟩ := hG
    unfold World.cell? at hm
    rcases Nat.lt_or_ge 0 w.heap.size with h | h
    · exact h
    · simp only [Array.getElem?_eq_none h] at hm
      cases hm
  refine vc_lknown w _ ⟨(mnew_any 5 14 w hw0).mono fun e w1 hN => ?_⟩
  rcases hN with ⟨h, _⟩ | ⟨_, b, mb, eb, he, hq, k1, gb, gm, ge⟩
  · exact absurd h (by decide)
  refine ⟨_, _, he, .of_k0 k1, bsp_intro (fun h => by cases h) (fun _ n n1 n2 n3 n4 W hW => ?_)⟩
  have k2 : K0 w1 W := hW.kk rfl
  have fresh : ∀ {wa wb : World}, K0 w wa → Kp (QB b mb eb) wa wb → K0 w wb := fun ka hk => ka.fresh hk (fun j hj e => by rcases e with e | e | e <;> omega)
  have hG' : ∀ {wa : World}, K0 w wa → GW wa := fun k => hG.kp k (fun h => h)
  have c0 := hW.cells 0 rfl
  have c1 := hW.cells 1 rfl
  have c2 := hW.cells 2 rfl
  have c3 := hW.cells 3 rfl
  have c4 := hW.cells 4 rfl
  have kT2 := k1.trans k2
  have hR : RowA auC 16 W (some ⟨n4, 0, none⟩) [k39 2, k39 1] := fun k y hy => by
    match k, hy with
    | 0, hy => cases hy; exact ⟨n4, 0, rfl, AtL_block c0 rfl⟩
    | 1, hy => cases hy; exact ⟨n4, 0, rfl, AtL_block c0 rfl⟩
    | k + 2, hy => cases hy
  have q2 := hq.k0 k2
  have hb1 := block_lt hq.st
  have hm1 := hq.mm.lt
  have he1 := hq.me.lt
  have kept : ∀ {wa wb : World} {ns : List Nat}, Kp (QB b mb eb) wa wb → (∀ z ∈ ns, w1.heap.size ≤ z) → KeptL ns wa wb := fun hk hns => .of_kp hk fun z hz e => by
    have := hns z hz
    rcases e with e | e | e <;> omega
  have g0 : w1.heap.size ≤ n4 := hW.fresh 0 rfl rfl
  have g1 : w1.heap.size ≤ n3 := hW.fresh 1 rfl rfl
  have g2 : w1.heap.size ≤ n2 := hW.fresh 2 rfl rfl
  have g3 : w1.heap.size ≤ n1 := hW.fresh 3 rfl rfl
  have g4 : w1.heap.size ≤ n := hW.fresh 4 rfl rfl
  have gN : ∀ z ∈ [n3, n2, n1, n], w1.heap.size ≤ z := fun z hz => by
    simp only [List.mem_cons, List.not_mem_nil, or_false] at hz
    rcases hz with rfl | rfl | rfl | rfl <;> assumption
  have cons : ∀ {z : Nat} {ns : List Nat}, w1.heap.size ≤ z → (∀ y ∈ ns, w1.heap.size ≤ y) → ∀ y ∈ z :: ns, w1.heap.size ≤ y := fun hz hns y hy => by
    rcases List.mem_cons.1 hy with rfl | h
    · exact hz
    · exact hns y h
  have b7 : BY (k39 7) := k39_BY (by decide)
  have b3 : BY (k39 3) := k39_BY (by decide)
  have b1 : BY (k39 1) := k39_BY (by decide)
  have b2 : BY (k39 2) := k39_BY (by decide)
  have gk : kG.size ≤ 1073741824 := by decide
  refine ⟨(setMods_any q2 kG [k39 2, k39 1] (some ⟨n4, 0, none⟩) 2 hR (fun g o e => by cases e; exact block_lt c0) (fun m hm => (kml m hm).1) (hG' kT2)).mono fun e w3 ⟨he, ⟨q', hS, hq3⟩, k3⟩ => ?_⟩
  have hok3 := kq0_ok.setR kml hS
  obtain ⟨x, hx, rfl⟩ := kset_iff hS
  rw [k_set] at he
  refine ⟨_, he, kept k3 gN, ?_⟩
  have kT3 := fresh kT2 k3
  refine ⟨(submit_any hq3 hok3 (k39 7) b7 kG kX 10 (hG' kT3)).mono fun e w4 ⟨he, hq4, k4⟩ => ?_⟩
  have hok4 := hok3.sub (g := kG) (tx := kX) (now := 10) ⟨b7, k39_NZ (by decide) 7⟩
  rw [k_sub1 hx] at he
  rw [k_subQ1 hx] at hq4 hok4
  refine ⟨_, he, kept k4 gN, ?_⟩
  have kT4 := fresh kT3 k4
  refine ⟨(submit_any hq4 hok4 (k39 3) b3 kG kY 5 (hG' kT4)).mono fun e w5 ⟨he, hq5, k5⟩ => ?_⟩
  have hok5 := hok4.sub (g := kG) (tx := kY) (now := 5) ⟨b3, k39_NZ (by decide) 3⟩
  rw [k_sub2 hx] at he
  rw [k_subQ2 hx] at hq5 hok5
  refine ⟨_, he, kept k5 gN, ?_⟩
  have kT5 := fresh kT4 k5
  refine ⟨(claim_any hq5 hok5 (show (2 : Nat) ≤ 1000000 by decide) kG gk (k39 1) b1 20 (hG' kT5)).mono fun e w6 hC => ?_⟩
  have hC1 := k_clm hx 1 (.inl rfl) (es := [(kx, kex), (ky, key_)]) (by rw [k_sel1]; decide)
  rcases hC with ⟨h, _⟩ | ⟨_, s, hs, hmin, he, hq6, k6⟩
  · exact absurd hC1 h
  rw [k_sel1] at hs hmin
  obtain rfl := k_min hs hmin
  have hok6 := hok5.clm hq5.dis (P := clP kG (auI (k39 1)) 20) (x := key_.s) (a := k39 1) (now := 20) (by show key_.s ∈ isSel (kq x 2 [(kx, kex), (ky, key_)]) kG (auI (k39 1)) 20; rw [k_sel1]; exact hs) ⟨b1, k39_NZ (by decide) 1⟩ ⟨by decide, by decide⟩
  have e6 : ({ kq x 2 [(kx, kex), (ky, key_)] with es := aset (kq x 2 [(kx, kex), (ky, key_)]).es key_.s.ky ⟨key_.s, true, k39 1, 20⟩ } : Qu) = kq x 2 [(kx, kex), (ky, key2)] := by
    show kq x 2 (aset [(kx, kex), (ky, key_)] ky key2) = _
    rw [k_set1]
  rw [e6] at hq6 hok6
  refine ⟨_, _, _, _, _, _, _, _, _, he, kept k6 gN, fun n5 W7 hW7 => ?_⟩
  have kT6 := fresh kT5 k6
  have k7 : K0 w6 W7 := hW7.kk rfl
  have kT7 := kT6.trans k7
  have gn5 : w1.heap.size ≤ n5 := by
    have h1 : w6.heap.size ≤ n5 := hW7.fresh 0 rfl rfl
    have h2 := k2.size
    have h3 := k3.size
    have h4 := k4.size
    have h5 := k5.size
    have h6 := k6.size
    omega
  have gN5 := cons gn5 gN
  have hq7 := hq6.k0 k7
  refine ⟨(claim_any hq7 hok6 (show (2 : Nat) ≤ 1000000 by decide) kG gk (k39 1) b1 20 (hG' kT7)).mono fun e w8 hC => ?_⟩
  have hC2 := k_clm hx 1 (.inl rfl) (es := [(kx, kex), (ky, key2)]) (by rw [k_sel2]; decide)
  rcases hC with ⟨h, _⟩ | ⟨_, s, hs, hmin, he, hq8, k8⟩
  · exact absurd hC2 h
  rw [k_sel2] at hs hmin
  obtain rfl := k_min hs hmin
  have hok8 := hok6.clm hq7.dis (P := clP kG (auI (k39 1)) 20) (x := key_.s) (a := k39 1) (now := 20) (by show key_.s ∈ isSel (kq x 2 [(kx, kex), (ky, key2)]) kG (auI (k39 1)) 20; rw [k_sel2]; exact hs) ⟨b1, k39_NZ (by decide) 1⟩ ⟨by decide, by decide⟩
  have e8 : ({ kq x 2 [(kx, kex), (ky, key2)] with es := aset (kq x 2 [(kx, kex), (ky, key2)]).es key_.s.ky ⟨key_.s, true, k39 1, 20⟩ } : Qu) = kq x 2 [(kx, kex), (ky, key2)] := by
    show kq x 2 (aset [(kx, kex), (ky, key2)] ky key2) = _
    rw [k_set1]
  rw [e8] at hq8 hok8
  refine ⟨_, _, _, _, _, _, _, _, _, he, kept k8 gN5, fun n6 W9 hW9 => ?_⟩
  have kT8 := fresh kT7 k8
  have k9 : K0 w8 W9 := hW9.kk rfl
  have kT9 := kT8.trans k9
  have gn6 : w1.heap.size ≤ n6 := by
    have h1 : w8.heap.size ≤ n6 := hW9.fresh 0 rfl rfl
    have h2 := k2.size
    have h3 := k3.size
    have h4 := k4.size
    have h5 := k5.size
    have h6 := k6.size
    have h7 := k7.size
    have h8 := k8.size
    omega
  have gN6 := cons gn6 gN5
  have hq9 := hq8.k0 k9
  refine ⟨(claim_any hq9 hok8 (show (2 : Nat) ≤ 1000000 by decide) kG gk (k39 2) b2 20 (hG' kT9)).mono fun e w10 hC => ?_⟩
  have hC3 := k_clm hx 2 (.inr rfl) (es := [(kx, kex), (ky, key2)]) (by rw [k_sel3]; decide)
  rcases hC with ⟨h, _⟩ | ⟨_, s, hs, hmin, he, hq10, k10⟩
  · exact absurd hC3 h
  rw [k_sel3] at hs hmin
  obtain rfl : s = kex.s := by simpa using hs
  have hok10 := hok8.clm hq9.dis (P := clP kG (auI (k39 2)) 20) (x := kex.s) (a := k39 2) (now := 20) (by show kex.s ∈ isSel (kq x 2 [(kx, kex), (ky, key2)]) kG (auI (k39 2)) 20; rw [k_sel3]; exact hs) ⟨b2, k39_NZ (by decide) 2⟩ ⟨by decide, by decide⟩
  have e10 : ({ kq x 2 [(kx, kex), (ky, key2)] with es := aset (kq x 2 [(kx, kex), (ky, key2)]).es kex.s.ky ⟨kex.s, true, k39 2, 20⟩ } : Qu) = kq x 2 [(kx, kex2), (ky, key2)] := by
    show kq x 2 (aset [(kx, kex), (ky, key2)] kx kex2) = _
    rw [k_set2]
  rw [e10] at hq10 hok10
  refine ⟨_, _, _, _, _, _, _, _, _, he, kept k10 gN6, fun n7 W11 hW11 => ?_⟩
  have kT10 := fresh kT9 k10
  have k11 : K0 w10 W11 := hW11.kk rfl
  have kT11 := kT10.trans k11
  have gn7 : w1.heap.size ≤ n7 := by
    have h1 : w10.heap.size ≤ n7 := hW11.fresh 0 rfl rfl
    have h2 := k2.size
    have h3 := k3.size
    have h4 := k4.size
    have h5 := k5.size
    have h6 := k6.size
    have h7 := k7.size
    have h8 := k8.size
    have h9 := k9.size
    have h10 := k10.size
    omega
  have gN7 := cons gn7 gN6
  have hq11 := hq10.k0 k11
  refine ⟨(approve_any hq11 hok10 (show (2 : Nat) ≤ 10000 by decide) (k39 3) b3 kG gk (k39 2) b2 79).mono fun e w12 ⟨he, hq12, k12⟩ => ?_⟩
  rw [k_ap79 hx] at he
  rw [k_apQ79 hx] at hq12
  refine ⟨0, fun _ => 0, ⟨#[]⟩, 0, false, none, 0, 0, ⟨#[]⟩, 0, 0, fun _ => 0, 25, he, kept k12 gN7, fun n9 W13 hW13 => ?_⟩
  have kT12 := fresh kT11 k12
  have k13 : K0 w12 W13 := hW13.kk rfl
  have kT13 := kT12.trans k13
  have gn9 : w1.heap.size ≤ n9 := by
    have h1 : w12.heap.size ≤ n9 := hW13.fresh 0 rfl rfl
    have h2 := k2.size
    have h3 := k3.size
    have h4 := k4.size
    have h5 := k5.size
    have h6 := k6.size
    have h7 := k7.size
    have h8 := k8.size
    have h9 := k9.size
    have h10 := k10.size
    have h11 := k11.size
    have h12 := k12.size
    omega
  have gN9 := cons gn9 gN7
  have hq13 := hq12.k0 k13
  refine ⟨(approve_any hq13 hok10 (show (2 : Nat) ≤ 10000 by decide) (k39 3) b3 kG gk (k39 2) b2 80).mono fun e w14 ⟨he, hq14, k14⟩ => ?_⟩
  have hok14 : (apQ (kq x 2 [(kx, kex2), (ky, key2)]) (k39 3) kG (k39 2) 80 1 ⟨#[]⟩).OK := by
    unfold apQ
    rw [if_neg (by decide)]
    exact hok10.dec ⟨b2, k39_NZ (by decide) 2⟩ ⟨by decide, by decide⟩ ⟨by decide, by decide⟩ (by decide)
  rw [k_ap80 hx] at he
  rw [k_apQ80 hx] at hq14 hok14
  have kT14 := fresh kT13 k14
  refine ⟨2, k39 3, kG, 0, false, none, 0, 0, ⟨#[]⟩, 0, 0, fun _ => 0, 0, he, kept k14 gN9, fun n11 => ?_⟩
  refine ⟨k39 3, gimp_intro fun _ W15 hW15 => AtL_block (hW15.cells 4 rfl) rfl, true, gimp_intro fun _ => kidEq (by decide) (by decide) (by decide +kernel), kY, gimp_intro fun _ W15 hW15 => cell_at (hW15.cells 4 rfl) rfl,
    k39 3, gimp_intro fun _ W15 hW15 => AtL_block (hW15.cells 3 rfl) rfl, true, gimp_intro fun _ => kidEq (by decide) (by decide) (by decide +kernel),
    k39 7, gimp_intro fun _ W15 hW15 => AtL_block (hW15.cells 2 rfl) rfl, true, gimp_intro fun _ => kidEq (by decide) (by decide) (by decide +kernel),
    2, gimp_intro fun _ W15 hW15 => cell_at (hW15.cells 0 rfl) rfl, k39 3, gimp_intro fun _ W15 hW15 => AtL_block (hW15.cells 0 rfl) rfl, true, gimp_intro fun _ => kidEq (by decide) (by decide) (by decide +kernel), kG, gimp_intro fun _ W15 hW15 => cell_at (hW15.cells 0 rfl) rfl, fun W15 hW15 => ?_⟩
  have k15 : K0 w14 W15 := hW15.kk rfl
  have kT15 := kT14.trans k15
  refine bsp_intro (fun _ => ?_) (fun h => absurd h (by decide +kernel))
  refine ⟨(count_any (hq14.k0 k15) hok14 (show (2 : Nat) ≤ 1000000 by decide) kG 1 (hG' kT15)).mono fun e w16 ⟨he, k16⟩ => ⟨_, he, .of_k0 k16, ?_, kT15.trans k16⟩⟩
  show Ending.returned (.bool (true && (((selE (lsP kG 1) [(kx, kex2), (ky, key3)]).length : Nat) : Int) == 1)) = _
  rw [k_cnt]
  rfl

/-! ### New, Moderators -/
theorem mods_any {w : World} {b mb eb : Nat} {q : Qu} (h : Mq w b mb eb q) (ho : q.OK) (g : ByteArray) (hg : g.size ≤ 1073741824) :
    Calls Tryz.prog 16 #[.pointer (some ⟨b, 0, none⟩), .string g] w fun e w' => (∃ (p : Option Addr) (c : Nat), e = .returned (.slice p (q.md g).l.length c) ∧ w'.ownsRow w.heap.size 45 16 (.slice p (q.md g).l.length c) (q.md g).l.length ((q.md g).l.flatMap auC)) ∧ K0 w w' := by
  have hl : (q.md g).l.length ≤ 8 := by
    unfold Qu.md
    cases hgt : aget q.ms g with
    | none => decide
    | some x => exact (ho.ms g x hgt).2.1.len
  exact vc_mods b g w _ ⟨some mb, h.cM, _, _, _, h.lookM hg, ⟨(aclone_any (q.md g).l (q.md g).p (q.md g).c w (h.rowM g) (by omega)).mono fun e w1 hcl => by
    obtain ⟨⟨p, c, he, ho⟩, k1⟩ := hcl
    exact ⟨_, _, _, he, .of_k0 k1, ⟨p, c, rfl, ho⟩, k1⟩⟩⟩
end Go.Proofs.YtfacflbmlfbeeaaGreatDoor

/- The formulas of functions by the symbolic evaluator, and that each gives the call's contract. Written by a program (gen.py). No condition. -/
namespace Go.Proofs.YtfacflbmlfbeeaaGreatDoor
set_option maxRecDepth 100000
set_option linter.unusedVariables false

def VC_lname (n : Int) (w : World) (R : Ending -> World -> Prop) : Prop := ∀ (n_1 : Nat) (W : World), Loc w.heap.size [Blk.mk n_1 9 [Value.string (ByteArray.mk #[103]), .string (ByteArray.mk #[103]), .string (ByteArray.mk #[97, 46, 98]), .string (ByteArray.mk #[103]), .string (ByteArray.mk #[104]), .string (ByteArray.mk #[]), .string (ByteArray.mk #[71])] 2] w W -> (0 <= n.tmod 7 /\ n.tmod 7 < (↑7 : Int)) /\ ∃ (x : ByteArray), W.cell? (Addr.mk n_1 (0 + (n.tmod 7).toNat) none) = some (.string x) /\ R (.returned (.string x)) W
theorem vc_lname (n : Int) (w : World) (R : Ending -> World -> Prop) (h : VC_lname n w R) : Calls Tryz.prog 30 ([Value.int .u8 n] : List Value).toArray w R :=
 calls_of_exec2' (loops := []) (tails := []) (joins := []) (boxes := []) (rngs := []) (c := Tryz.f30.body.getD .skip) pur1_ok Tryz.func30 (by kernel_rfl) (by kernel_rfl) h

def VC_lid (n : Int) (w : World) (R : Ending -> World -> Prop) : Prop := ∀ (n_1 : Nat) (W : World), Loc w.heap.size [Blk.mk n_1 32 [Value.int .u8 0, .int .u8 0, .int .u8 0, .int .u8 0, .int .u8 0, .int .u8 0, .int .u8 0, .int .u8 0, .int .u8 0, .int .u8 0, .int .u8 0, .int .u8 0, .int .u8 0, .int .u8 0, .int .u8 0, .int .u8 0, .int .u8 0, .int .u8 0, .int .u8 0, .int .u8 0, .int .u8 0, .int .u8 0, .int .u8 0, .int .u8 0, .int .u8 0, .int .u8 0, .int .u8 0, .int .u8 0, .int .u8 0, .int .u8 0, .int .u8 0, .int .u8 (n.tmod 6)] (wrM 2)] w W -> R (.returned (.agg #[.int .u8 0, .int .u8 0, .int .u8 0, .int .u8 0, .int .u8 0, .int .u8 0, .int .u8 0, .int .u8 0, .int .u8 0, .int .u8 0, .int .u8 0, .int .u8 0, .int .u8 0, .int .u8 0, .int .u8 0, .int .u8 0, .int .u8 0, .int .u8 0, .int .u8 0, .int .u8 0, .int .u8 0, .int .u8 0, .int .u8 0, .int .u8 0,
 .int .u8 0, .int .u8 0, .int .u8 0, .int .u8 0, .int .u8 0, .int .u8 0, .int .u8 0, .int .u8 (n.tmod 6)])) W
theorem vc_lid (n : Int) (w : World) (R : Ending -> World -> Prop) (h : VC_lid n w R) : Calls Tryz.prog 29 ([Value.int .u8 n] : List Value).toArray w R :=
 calls_of_exec2' (loops := []) (tails := []) (joins := []) (boxes := []) (rngs := []) (c := Tryz.f29.body.getD .skip) pur1_ok Tryz.func29 (by kernel_rfl) (by kernel_rfl) h

def VC_lauthor (n : Int) (w : World) (R : Ending -> World -> Prop) : Prop := ∀ (n_1 : Nat) (W : World), Loc w.heap.size [Blk.mk n_1 45 [Value.int .u8 0, .int .u8 0, .int .u8 0, .int .u8 0, .int .u8 0, .int .u8 0, .int .u8 0, .int .u8 0, .int .u8 0, .int .u8 0, .int .u8 0, .int .u8 0, .int .u8 0, .int .u8 0, .int .u8 0, .int .u8 (n.tmod 4)] (wrM 2)] w W -> R (.returned (.agg #[.int .u8 0, .int .u8 0, .int .u8 0, .int .u8 0, .int .u8 0, .int .u8 0, .int .u8 0, .int .u8 0, .int .u8 0, .int .u8 0, .int .u8 0, .int .u8 0, .int .u8 0, .int .u8 0, .int .u8 0, .int .u8 (n.tmod 4)])) W
theorem vc_lauthor (n : Int) (w : World) (R : Ending -> World -> Prop) (h : VC_lauthor n w R) : Calls Tryz.prog 20 ([Value.int .u8 n] : List Value).toArray w R :=
 calls_of_exec2' (loops := []) (tails := []) (joins := []) (boxes := []) (rngs := []) (c := Tryz.f20.body.getD .skip) pur1_ok Tryz.func20 (by kernel_rfl) (by kernel_rfl) h

end Go.Proofs.YtfacflbmlfbeeaaGreatDoor

/- Chapter 39: the contracts of the functions of a nil queue, of the law's name, id, author. No condition. -/
namespace Go.Proofs.YtfacflbmlfbeeaaGreatDoor
open Go.RowKit Go.Sort Go.Maps

/-! ### The law's own functions -/
def nmG (n : Int) : ByteArray := match (n.tmod 7).toNat with
  | 2 => ⟨#[97, 46, 98]⟩
  | 4 => ⟨#[104]⟩
  | 5 => ⟨#[]⟩
  | 6 => ⟨#[71]⟩
  | _ => ⟨#[103]⟩
theorem lname_any (n : Int) (hn : 0 ≤ n) (w : World) : Calls Tryz.prog 30 #[.int .u8 n] w fun e w' => e = .returned (.string (nmG n)) ∧ K0 w w' := by
  refine vc_lname n w _ (fun n1 W hW => ⟨?_, nmG n, ?_, rfl, hW.kk rfl⟩)
  · rw [Int.tmod_eq_emod_of_nonneg hn]; omega
  · have h7 : (n.tmod 7).toNat < 7 := by rw [Int.tmod_eq_emod_of_nonneg hn]; omega
    unfold nmG
    generalize (n.tmod 7).toNat = k at h7
    obtain rfl | rfl | rfl | rfl | rfl | rfl | rfl : k = 0 ∨ k = 1 ∨ k = 2 ∨ k = 3 ∨ k = 4 ∨ k = 5 ∨ k = 6 := by omega
    all_goals exact cell_at (hW.cells 0 rfl) rfl
def idN (n : Int) : Nat → Int := fun j => if j = 31 then n.tmod 6 else 0
def auN (n : Int) : Nat → Int := fun j => if j = 15 then n.tmod 4 else 0
theorem idN_ok {n : Int} (hn : 0 ≤ n) : BY (idN n) ∧ NZ 32 (idN n) := by
  refine ⟨fun j => ?_, fun j hj => ?_⟩
  · unfold idN
    rw [Int.tmod_eq_emod_of_nonneg hn]
    split <;> omega
  · unfold idN
    rw [if_neg (by omega)]
theorem auN_ok {n : Int} (hn : 0 ≤ n) : BY (auN n) ∧ NZ 16 (auN n) := by
  refine ⟨fun j => ?_, fun j hj => ?_⟩
  · unfold auN
    rw [Int.tmod_eq_emod_of_nonneg hn]
    split <;> omega
  · unfold auN
    rw [if_neg (by omega)]
theorem lid_any (n : Int) (w : World) : Calls Tryz.prog 29 #[.int .u8 n] w fun e w' => e = .returned (.agg (arrI .u8 (idN n) 32 0).toArray) ∧ K0 w w' :=
  vc_lid n w _ (fun _ _ hW => ⟨rfl, hW.k0 (.refl _ _)⟩)
theorem lauthor_any (n : Int) (w : World) : Calls Tryz.prog 20 #[.int .u8 n] w fun e w' => e = .returned (.agg (arrI .u8 (auN n) 16 0).toArray) ∧ K0 w w' :=
  vc_lauthor n w _ (fun _ _ hW => ⟨rfl, hW.k0 (.refl _ _)⟩)

end Go.Proofs.YtfacflbmlfbeeaaGreatDoor

/- Chapter 39: the queue and the model side by side in the memory. -/
namespace Go.Proofs.YtfacflbmlfbeeaaGreatDoor
open Go.RowKit Go.Sort Go.Maps

/-- Both, made behind the world w0. -/
structure SW (w0 w : World) (b mb eb m : Nat) (q : Qu) (M : Mo) (P : Pl) : Prop where
  mq : Mq w b mb eb q
  qs : QSep w q
  mr : MoR w w0.heap.size m M P
  k : K0 w0 w
  gb : w0.heap.size ≤ b
  gm : w0.heap.size ≤ mb
  ge : w0.heap.size ≤ eb
section
variable {w0 w w' : World} {b mb eb m : Nat} {q q' : Qu} {M M' : Mo} {P P' : Pl}
theorem SW.k0 (h : SW w0 w b mb eb m q M P) (hk : K0 w w') : SW w0 w' b mb eb m q M P := ⟨h.mq.k0 hk, h.qs.k0 hk, h.mr.k0 hk, h.k.trans hk, h.gb, h.gm, h.ge⟩
theorem SW.qb (h : SW w0 w b mb eb m q M P) (hk : Kp (QB b mb eb) w w') : K0 w0 w' := h.k.fresh hk (fun i hi e => by
  have h1 := h.gb
  have h2 := h.gm
  have h3 := h.ge
  rcases e with e | e | e <;> omega)
theorem SW.mf (h : SW w0 w b mb eb m q M P) (hk : Kp (MF w w0.heap.size) w w') : K0 w0 w' := h.k.fresh hk (fun i hi e => by have := e.1; omega)
theorem SW.qopS (h : SW w0 w b mb eb m q M P) (hm : Mq w' b mb eb q') (hs : QSep w' q') (hk : Kp (QB b mb eb) w w') : SW w0 w' b mb eb m q' M P := ⟨hm, hs, h.mr.qb h.mq hk, h.qb hk, h.gb, h.gm, h.ge⟩
theorem SW.qop (h : SW w0 w b mb eb m q M P) (hm : Mq w' b mb eb q') (hk : Kp (QB b mb eb) w w') (he : q'.ms = q.ms) : SW w0 w' b mb eb m q' M P := h.qopS hm (fun g x hx => (h.qs.qb h.mq hk) g x (by rw [← he]; exact hx)) hk
theorem SW.mop (h : SW w0 w b mb eb m q M P) (hr : MoR w' w0.heap.size m M' P') (hk : Kp (MF w w0.heap.size) w w') : SW w0 w' b mb eb m q M' P' := ⟨h.mq.mf h.qs hk, h.qs.mf hk, hr, h.mf hk, h.gb, h.gm, h.ge⟩
theorem SW.qk (h : SW w0 w b mb eb m q M P) (hk : Kp (QB b mb eb) w w') {ns : List Nat} (hn : ∀ n ∈ ns, ∃ c t f, w.heap[n]? = some (.cells c t f) ∧ (t == 98) = false) : KeptL ns w w' := h.mq.kept hk (fun _ h => h) hn
theorem SW.gw (h : SW w0 w b mb eb m q M P) (hG : GW w0) : GW w := hG.kp h.k (fun h => h)
end
theorem subQ_ms (q : Qu) (id : Nat → Int) (g tx : ByteArray) (now : Int) : (subQ q id g tx now).ms = q.ms := by unfold subQ; split <;> rfl
theorem relQ_ms (q : Qu) (id : Nat → Int) (g : ByteArray) (a : Nat → Int) (now : Int) : (relQ q id g a now).ms = q.ms := by unfold relQ; split <;> rfl
theorem decQ_ms (q : Qu) (id : Nat → Int) (g : ByteArray) (a : Nat → Int) (now st : Int) (rs : ByteArray) : (decQ q id g a now st rs).ms = q.ms := by unfold decQ; split <;> rfl
theorem apQ_ms (q : Qu) (id : Nat → Int) (g : ByteArray) (a : Nat → Int) (now st : Int) (rs : ByteArray) : (apQ q id g a now st rs).ms = q.ms := by unfold apQ; split; rfl; exact decQ_ms ..
theorem rejQ_ms (q : Qu) (id : Nat → Int) (g : ByteArray) (a : Nat → Int) (rs : ByteArray) (now : Int) : (rejQ q id g a rs now).ms = q.ms := by
  unfold rejQ
  repeat' split
  all_goals first | rfl | exact decQ_ms ..
theorem delA_ms : ∀ (L : List Sb) (q : Qu), (delA q L).ms = q.ms
  | [], _ => rfl
  | x :: L, q => (delA_ms L { q with es := adel q.es x.ky }).trans rfl
theorem nmG_sz (n : Int) : (nmG n).size ≤ 1073741824 := by
  unfold nmG
  repeat' split
  all_goals decide
/-! ### What an operation does to the model -/
def txO (t : ByteArray) : ByteArray := t.extract 0 (min t.size 300)
def auK (i a k : Int) : Nat → Int := fun j => if j = 15 then (IntKind.u8.wrap (i * k + a)).tmod 10 else 0
theorem auK_ok (i a k : Int) : BY (auK i a k) ∧ NZ 16 (auK i a k) := by
  refine ⟨fun j => ?_, fun j hj => ?_⟩
  · unfold auK
    split
    · have h : 0 ≤ IntKind.u8.wrap (i * k + a) := by unfold IntKind.wrap; simp [IntKind.bits, IntKind.signed]; omega
      rw [Int.tmod_eq_emod_of_nonneg h]
      omega
    · omega
  · unfold auK
    rw [if_neg (by omega)]
def moL (i a : Int) : List (Nat → Int) := (List.range (a.tmod 12).toNat).map fun k : Nat => auK i a (k : Int)
theorem moL_ok {i a : Int} : ∀ z ∈ moL i a, BY z ∧ NZ 16 z := fun z hz => by
  obtain ⟨k, _, rfl⟩ := List.mem_map.1 hz
  exact auK_ok ..
noncomputable def stpM (k i g a now : Int) (t : ByteArray) (M M' : Mo) : Prop :=
  match (k.tmod 8).toNat with
  | 0 => (xsubE M (idN i) (nmG g) (txO t) now = 0 ∧ ∃ L : List En, L.Perm (newE (idN i) (nmG g) (txO t) now :: M.es) ∧ M' = { M with es := L }) ∨ (xsubE M (idN i) (nmG g) (txO t) now ≠ 0 ∧ M' = M)
  | 1 => M' = xclM M (nmG g) (auN a) now
  | 2 => M' = xrlM M (idI (idN i), nmG g) (auN a) now
  | 3 => M' = xdcM M (idN i) (nmG g) (auN a) 1 ⟨#[]⟩ now
  | 4 => M' = xdcM M (idN i) (nmG g) (auN a) 2 (txO t) now
  | 5 => M' = xlpM M now
  | 6 => M' = { M with es := M.es.filter (kpP now) }
  | _ => (setE (nmG g) (moL i a) = 0 ∧ ∃ X : MX, X.l.Perm (moL i a) ∧ (X.l.Pairwise fun x y => cfA x y < 0) ∧ M' = { M with gs := gset M.gs (nmG g) X }) ∨ (setE (nmG g) (moL i a) ≠ 0 ∧ M' = M)

end Go.Proofs.YtfacflbmlfbeeaaGreatDoor

/- Chapter 39, plain: what an operation leaves of the entries; leases, lapses. No program in sight but in the definitions. -/
namespace Go.Proofs.YtfacflbmlfbeeaaGreatDoor
open Go.RowKit Go.Sort Go.Maps

/-! ### What an operation changes -/
def ws (M : Mo) : Nat := (M.ls ⟨#[]⟩ 0).length
theorem lsP_e (st : Int) (x : En) : lsP ⟨#[]⟩ st x = (x.s.st == st) := by unfold lsP; simp
theorem ws_eq (M : Mo) : ws M = (M.es.filter fun x => x.s.st == 0).length := by
  unfold ws Mo.ls
  rw [List.length_map, show lsP ⟨#[]⟩ 0 = fun x => x.s.st == 0 from funext fun x => lsP_e 0 x]
def Chg (k g a : Int) (M : Mo) (y y' : En) : Prop :=
  (y'.s = y.s ∧ (y'.ho = y.ho ∨ y'.ho = auN a ∨ y'.ho = fun _ => 0)) ∨
  (y.s.st = 0 ∧ y'.ho = (fun _ => 0) ∧ y'.s.ky = y.s.ky ∧ ((k.tmod 8 = 5 ∧ y'.s.st = 3 ∧ y'.s.mo = fun _ => 0) ∨ ((y'.s.st = 1 ∨ y'.s.st = 2) ∧ y'.s.mo = auN a ∧ y.s.g = nmG g ∧ isMB (M.md (nmG g)) (auN a) = true)))
section
variable {k i g a now : Int} {t : ByteArray} {M M' : Mo}
theorem Chg.refl {y : En} : Chg k g a M y y := .inl ⟨rfl, .inl rfl⟩
theorem Chg.st {y y' : En} (h : Chg k g a M y y') (h0 : y'.s.st = 0) : y.s.st = 0 := by
  rcases h with ⟨e, _⟩ | ⟨e, _⟩
  · rw [← e]; exact h0
  · exact e
theorem Chg.ky {y y' : En} (h : Chg k g a M y y') : y'.s.ky = y.s.ky := by
  rcases h with ⟨e, _⟩ | ⟨_, _, e, _⟩
  · rw [e]
  · exact e
theorem chg_up {c : Ky} {f : En → En} (h : ∀ y ∈ M.es, y.s.ky = c → Chg k g a M y (f y)) : ∃ G : En → En, M.up c f = { M with es := M.es.map G } ∧ ∀ y ∈ M.es, Chg k g a M y (G y) :=
  ⟨fun y => if y.s.ky = c then f y else y, rfl, fun y hy => by
    simp only
    split
    · rename_i e; exact h y hy e
    · exact .refl⟩
theorem chg_no : ∃ G : En → En, M = { M with es := M.es.map G } ∧ ∀ y ∈ M.es, Chg k g a M y (G y) := ⟨id, by rw [List.map_id], fun _ _ => .refl⟩
theorem xdc_some {id : Nat → Int} {g : ByteArray} {a : Nat → Int} {st : Int} {rs : ByteArray} (h : xdcE M id g a st rs now = 0) : isMB (M.md g) a = true ∧ ∃ y, M.fd (idI id, g) = some y ∧ y.s.st = 0 := by
  unfold xdcE at h
  split at h
  · exact absurd h (by decide)
  split at h
  · exact absurd h (by decide)
  split at h
  · exact absurd h (by decide)
  split at h
  · exact absurd h (by decide)
  rename_i hm
  have hm : isMB (M.md g) a = true := by simpa using hm
  cases hf : M.fd (idI id, g) with
  | none => simp only [hf] at h; exact absurd h (by decide)
  | some y =>
    simp only [hf] at h
    refine ⟨hm, y, rfl, ?_⟩
    split at h
    · exact absurd h (by decide)
    · rename_i h0; simpa using h0
theorem xdc_chg {st : Int} {rs : ByteArray} (hd : DisK M.es) (hst : st = 1 ∨ st = 2) : ∃ G : En → En, xdcM M (idN i) (nmG g) (auN a) st rs now = { M with es := M.es.map G } ∧ ∀ y ∈ M.es, Chg k g a M y (G y) := by
  unfold xdcM
  split
  · rename_i h0
    obtain ⟨hm, u, hu, h0⟩ := xdc_some h0
    refine chg_up fun y hy hk => ?_
    have hyu : y = u := by
      have h1 := (fd_iff hd).2 ⟨hy, hk⟩
      have hu : fdL M.es (idI (idN i), nmG g) = some u := hu
      rw [h1] at hu
      cases hu; rfl
    subst hyu
    exact .inr ⟨h0, rfl, rfl, .inr ⟨hst, rfl, (Prod.mk.inj hk).2, hm⟩⟩
  · exact chg_no
theorem stp_cases (hd : DisK M.es) (h : stpM k i g a now t M M') :
    (xsubE M (idN i) (nmG g) (txO t) now = 0 ∧ ∃ L : List En, L.Perm (newE (idN i) (nmG g) (txO t) now :: M.es) ∧ M' = { M with es := L }) ∨
    (∃ G : En → En, M' = { M with es := M.es.map G } ∧ ∀ y ∈ M.es, Chg k g a M y (G y)) ∨
    (k.tmod 8 = 6 ∧ ∃ P : En → Bool, M' = { M with es := M.es.filter P } ∧ ∀ y ∈ M.es, P y = false → y.s.st ≠ 0) ∨
    (∃ gs, M' = { M with gs := gs }) := by
  unfold stpM at h
  split at h
  · rcases h with ⟨h1, L, h2, h3⟩ | ⟨_, h⟩
    · exact .inl ⟨h1, L, h2, h3⟩
    · subst h; exact .inr (.inl chg_no)
  · subst h
    refine .inr (.inl ?_)
    unfold xclM
    split
    · exact chg_up fun y _ _ => .inl ⟨rfl, .inr (.inl rfl)⟩
    · exact chg_no
  · subst h
    refine .inr (.inl ?_)
    unfold xrlM
    split
    · exact chg_up fun y _ _ => .inl ⟨rfl, .inr (.inr rfl)⟩
    · exact chg_no
  · subst h
    exact .inr (.inl (xdc_chg hd (.inl rfl)))
  · subst h
    exact .inr (.inl (xdc_chg hd (.inr rfl)))
  · rename_i hk
    subst h
    refine .inr (.inl ?_)
    unfold xlpM
    split
    · refine ⟨_, rfl, fun y hy => ?_⟩
      unfold lpF
      split
      · rename_i hl
        refine .inr ⟨?_, rfl, rfl, .inl ⟨by omega, rfl, rfl⟩⟩
        unfold lapP at hl
        simp at hl
        exact hl.1
      · exact .refl
    · exact chg_no
  · rename_i hk
    subst h
    refine .inr (.inr (.inl ⟨by omega, _, rfl, fun y _ hp => ?_⟩))
    unfold kpP at hp
    simp at hp
    exact hp.1
  · rcases h with ⟨_, X, _, _, h⟩ | ⟨_, h⟩
    · exact .inr (.inr (.inr ⟨_, h⟩))
    · subst h; exact .inr (.inl chg_no)

/-! ### How many wait -/
theorem ws_map {G : En → En} : ∀ {es : List En}, (∀ y ∈ es, (G y).s.st = 0 → y.s.st = 0) → ((es.map G).filter fun x => x.s.st == 0).length ≤ (es.filter fun x => x.s.st == 0).length
  | [], _ => Nat.le_refl _
  | y :: es, h => by
    have ih := ws_map (es := es) fun z hz => h z (List.mem_cons_of_mem _ hz)
    rw [List.map_cons, List.filter_cons, List.filter_cons]
    have hy := h y List.mem_cons_self
    by_cases h1 : (G y).s.st = 0
    · rw [if_pos (by simpa using h1), if_pos (by simpa using hy h1)]
      simp only [List.length_cons]; omega
    · rw [if_neg (by simpa using h1)]
      split
      · simp only [List.length_cons]; omega
      · exact ih
theorem xsub_room {id : Nat → Int} {g tx : ByteArray} (h0 : xsubE M id g tx now = 0) : ¬ M.room ≤ ((M.ls ⟨#[]⟩ 0).length : Nat) := by
  intro hr
  unfold xsubE at h0
  split at h0
  · exact absurd h0 (by decide)
  split at h0
  · rename_i hg; exact hg h0
  split at h0
  · exact absurd h0 (by decide)
  split at h0
  · exact absurd h0 (by decide)
  split at h0
  · exact absurd h0 (by decide)
  exact absurd h0 (by decide)
theorem ws_ins {id : Nat → Int} {g tx : ByteArray} {L : List En} (h0 : xsubE M id g tx now = 0) (hp : L.Perm (newE id g tx now :: M.es)) : (ws { M with es := L } : Int) ≤ M.room := by
  have h1 := xsub_room h0
  have h2 : ¬ M.room ≤ (ws M : Int) := h1
  have h3 : ws { M with es := L } = ws M + 1 := by
    rw [ws_eq, ws_eq]
    show (L.filter _).length = _
    rw [(hp.filter _).length_eq, List.filter_cons, if_pos (by rfl)]
    rfl
  omega
theorem ws_step (hd : DisK M.es) (h : stpM k i g a now t M M') (hw : (ws M : Int) ≤ M.room) : M'.room = M.room ∧ M'.days = M.days ∧ (ws M' : Int) ≤ M.room := by
  rcases stp_cases hd h with ⟨h0, L, hp, rfl⟩ | ⟨G, rfl, hG⟩ | ⟨_, P, rfl, hP⟩ | ⟨gs, rfl⟩
  · exact ⟨rfl, rfl, ws_ins h0 hp⟩
  · refine ⟨rfl, rfl, ?_⟩
    have : ws { M with es := M.es.map G } ≤ ws M := by
      rw [ws_eq, ws_eq]
      exact ws_map fun y hy => (hG y hy).st
    omega
  · refine ⟨rfl, rfl, ?_⟩
    have : ws { M with es := M.es.filter P } ≤ ws M := by
      rw [ws_eq, ws_eq]
      exact (List.filter_sublist.filter _).length_le
    omega
  · exact ⟨rfl, rfl, hw⟩

/-! ### What is decided stays -/
/-! ### Who holds -/
def HoI (M : Mo) : Prop := ∀ y ∈ M.es, ∃ b, y.ho = auN b
theorem auN_0 : auN 0 = fun _ => 0 := by
  funext j
  unfold auN
  split <;> rfl
theorem ho_step (hd : DisK M.es) (h : stpM k i g a now t M M') (hI : HoI M) : HoI M' := by
  rcases stp_cases hd h with ⟨h0, L, hp, rfl⟩ | ⟨G, rfl, hG⟩ | ⟨_, P, rfl, hP⟩ | ⟨gs, rfl⟩
  · intro y hy
    rcases List.mem_cons.1 (hp.subset hy) with rfl | hy
    · exact ⟨0, auN_0.symm⟩
    · exact hI y hy
  · intro z hz
    obtain ⟨y, hy, rfl⟩ := List.mem_map.1 hz
    rcases hG y hy with ⟨_, e | e | e⟩ | ⟨_, e, _⟩
    · rw [e]; exact hI y hy
    · exact ⟨a, e⟩
    · exact ⟨0, by rw [e, auN_0]⟩
    · exact ⟨0, by rw [e, auN_0]⟩
  · intro y hy
    exact hI y (List.mem_filter.1 hy).1
  · exact hI
end

/-! ### Leases, one after another -/
def A1 (j : Int) : Nat → Int := fun n => if n = 1 then j else 0
theorem A1_ne {j : Int} {f : Nat → Int} (h : f 1 ≠ j) : auI f ≠ auI (A1 j) := fun e => by
  have h1 := congrArg (fun l : List Int => l[1]?) e
  simp [auI, A1] at h1
  exact h h1
structure LeI (i : Int) (now : Int) (g : ByteArray) (M : Mo) (got : List Sb) : Prop where
  ho : ∀ y ∈ M.es, y.ho 1 ≤ i
  bk : ∀ s, got.getLast? = some s → ∀ y ∈ M.es, y.s.g = g → y.s.st = 0 → ¬ cfM s y.s < 0 → inE y now = true
  srt : M.es.Pairwise fun x y => cfM x.s y.s < 0
  dis : DisK M.es
theorem LeI.z {now : Int} {g : ByteArray} {M : Mo} (h : HoI M) (hs : M.es.Pairwise fun x y => cfM x.s y.s < 0) (hd : DisK M.es) : LeI 0 now g M [] := ⟨fun y hy => by
  obtain ⟨b, e⟩ := h y hy
  rw [e]
  show (if 1 = 15 then b.tmod 4 else 0) ≤ _
  rw [if_neg (by decide)]
  exact Int.le_refl _, fun s h => (by cases h), hs, hd⟩
theorem LeI.step {i now : Int} {g : ByteArray} {M : Mo} {got : List Sb} (h : LeI i now g M got) (h0 : xclE M g (A1 (i + 1)) now = 0) :
    (xclS M g (A1 (i + 1)) now).st = 0 ∧ (xclS M g (A1 (i + 1)) now).g = g ∧ (∀ s, got.getLast? = some s → cfM s (xclS M g (A1 (i + 1)) now) < 0) ∧ LeI (i + 1) now g (xclM M g (A1 (i + 1)) now) (got ++ [xclS M g (A1 (i + 1)) now]) ∧
      fdL (xclM M g (A1 (i + 1)) now).es (xclS M g (A1 (i + 1)) now).ky = some ⟨xclS M g (A1 (i + 1)) now, true, A1 (i + 1), now⟩ := by
  have hb : ∀ y ∈ M.es, blk y (auI (A1 (i + 1))) now = inE y now := fun y hy => by
    unfold blk
    rw [show decide (auI y.ho = auI (A1 (i + 1))) = false from decide_eq_false (A1_ne (by have := h.ho y hy; omega))]
    simp
  cases hf : M.es.find? (clP g (auI (A1 (i + 1))) now) with
  | none =>
    unfold xclE at h0
    simp only [hf] at h0
    split at h0
    · exact absurd h0 (by decide)
    · split at h0
      · exact absurd h0 (by decide)
      · exact absurd h0 (by decide)
  | some e =>
    have em := List.mem_of_find?_eq_some hf
    have ep := List.find?_some hf
    have eS : xclS M g (A1 (i + 1)) now = e.s := by unfold xclS; rw [if_pos h0, hf]; rfl
    have eM : xclM M g (A1 (i + 1)) now = M.up e.s.ky (fun y => ⟨y.s, true, A1 (i + 1), now⟩) := by unfold xclM; rw [if_pos h0, eS]
    have ep2 : (e.s.g = g ∧ e.s.st = 0) ∧ inE e now = false := by
      unfold clP at ep
      rw [hb e em] at ep
      simpa using ep
    obtain ⟨_, l1, bs, hes, has⟩ := List.find?_eq_some_iff_append.1 hf
    rw [eS, eM]
    have hky : ∀ y ∈ M.es, y.s.ky = e.s.ky → y = e := fun y hy hk => by
      have e1 := (fd_iff h.dis).2 ⟨hy, hk⟩
      have e2 := (fd_iff h.dis).2 ⟨em, rfl⟩
      rw [e1] at e2
      cases e2; rfl
    have hdis : DisK (M.up e.s.ky (fun y => ⟨y.s, true, A1 (i + 1), now⟩)).es := by
      refine List.pairwise_map.2 (h.dis.imp fun {x y} hxy => ?_)
      have e1 : ∀ z : En, (if z.s.ky = e.s.ky then (⟨z.s, true, A1 (i + 1), now⟩ : En) else z).s = z.s := fun z => by split <;> rfl
      rw [e1, e1]; exact hxy
    refine ⟨ep2.1.2, ep2.1.1, fun s hs => Classical.byContradiction fun hn => ?_, ⟨fun z hz => ?_, fun s hs z hz hg hst hc => ?_, ?_, hdis⟩, ?_⟩
    · have := h.bk s hs e em ep2.1.1 ep2.1.2 hn
      rw [this] at ep2
      exact absurd ep2.2 (by decide)
    · obtain ⟨y, hy, rfl⟩ := List.mem_map.1 hz
      split
      · show (if 1 = 1 then i + 1 else 0) ≤ _
        rw [if_pos rfl]; exact Int.le_refl _
      · have := h.ho y hy
        omega
    · rw [List.getLast?_append] at hs
      simp at hs
      subst hs
      obtain ⟨y, hy, rfl⟩ := List.mem_map.1 hz
      split
      · unfold inE
        simp
      · rename_i hne
        have e1 : (if y.s.ky = e.s.ky then (⟨y.s, true, A1 (i + 1), now⟩ : En) else y) = y := if_neg hne
        rw [e1] at hg hst hc
        have hy2 := hy
        rw [hes] at hy2
        rcases List.mem_append.1 hy2 with hm | hm
        · have := has y hm
          unfold clP at this
          rw [hb y hy] at this
          simp only [hg, hst, decide_true, Bool.true_and, Bool.not_not, beq_self_eq_true] at this
          exact this
        · rcases List.mem_cons.1 hm with rfl | hm
          · exact absurd rfl hne
          · have hs2 := h.srt
            rw [hes, List.pairwise_append] at hs2
            exact absurd ((List.pairwise_cons.1 hs2.2.1).1 y hm) hc
    · refine List.pairwise_map.2 (h.srt.imp fun {x y} hxy => ?_)
      have e1 : ∀ z : En, (if z.s.ky = e.s.ky then (⟨z.s, true, A1 (i + 1), now⟩ : En) else z).s = z.s := fun z => by split <;> rfl
      rw [e1, e1]; exact hxy
    · exact (fd_iff hdis).2 ⟨List.mem_map.2 ⟨e, em, if_pos rfl⟩, rfl⟩

/-! ### Lapses -/
end Go.Proofs.YtfacflbmlfbeeaaGreatDoor

/- Chapter 39, plain: the operations are determined; queues are equal exactly if the models are. No program in sight but in the definitions. -/
namespace Go.Proofs.YtfacflbmlfbeeaaGreatDoor
open Go.RowKit Go.Sort Go.Maps

/-! ### Models that say the same -/
def gpl (y : Gx) : ByteArray × List (Nat → Int) := (y.g, y.x.l)
structure MoE (M N : Mo) : Prop where
  room : N.room = M.room
  days : N.days = M.days
  es : N.es = M.es
  gs : N.gs.map gpl = M.gs.map gpl
theorem MoE.refl (M : Mo) : MoE M M := ⟨rfl, rfl, rfl, rfl⟩
theorem gfind {g : ByteArray} : ∀ {l m : List Gx}, l.map gpl = m.map gpl → ((((l.find? fun y => decide (y.g = g)).map (·.x)).getD mxz)).l = ((((m.find? fun y => decide (y.g = g)).map (·.x)).getD mxz)).l
  | [], [], _ => rfl
  | [], _ :: _, h => by simp at h
  | _ :: _, [], h => by simp at h
  | y :: l, z :: m, h => by
    simp only [List.map_cons, List.cons.injEq] at h
    obtain ⟨h1, h2⟩ := h
    unfold gpl at h1
    obtain ⟨e1, e2⟩ := Prod.mk.inj h1
    rw [List.find?_cons, List.find?_cons, e1]
    cases hd : decide (z.g = g) with
    | true => exact e2
    | false => exact gfind h2
section
variable {M N M' N' : Mo}
theorem MoE.md (h : MoE M N) (g : ByteArray) : (N.md g).l = (M.md g).l := gfind h.gs
theorem MoE.mb (h : MoE M N) (g : ByteArray) (a : Nat → Int) : isMB (N.md g) a = isMB (M.md g) a := by unfold isMB; rw [h.md]
theorem MoE.fd (h : MoE M N) (k : Ky) : N.fd k = M.fd k := by unfold Mo.fd; rw [h.es]
theorem MoE.ls (h : MoE M N) (g : ByteArray) (st : Int) : N.ls g st = M.ls g st := by unfold Mo.ls; rw [h.es]
theorem MoE.sub (h : MoE M N) (id : Nat → Int) (g tx : ByteArray) (now : Int) : xsubE N id g tx now = xsubE M id g tx now := by
  unfold xsubE
  rw [h.md, h.fd, h.ls, h.room]
theorem MoE.cl (h : MoE M N) (g : ByteArray) (a : Nat → Int) (now : Int) : xclE N g a now = xclE M g a now ∧ xclS N g a now = xclS M g a now := by
  have e1 : xclE N g a now = xclE M g a now := by
    unfold xclE
    rw [h.mb, h.es]
  refine ⟨e1, ?_⟩
  unfold xclS
  rw [e1, h.es]
theorem MoE.rl (h : MoE M N) (k : Ky) (a : Nat → Int) (now : Int) : xrlE N k a now = xrlE M k a now := by
  unfold xrlE
  rw [h.fd]
theorem MoE.dc (h : MoE M N) (id : Nat → Int) (g : ByteArray) (a : Nat → Int) (st : Int) (rs : ByteArray) (now : Int) : xdcE N id g a st rs now = xdcE M id g a st rs now := by
  unfold xdcE
  rw [h.fd, h.mb]
theorem MoE.up (h : MoE M N) (k : Ky) (f : En → En) : MoE (M.up k f) (N.up k f) := ⟨h.room, h.days, by unfold Mo.up; rw [h.es], h.gs⟩
end
theorem gset_pl {g : ByteArray} {X Y : MX} (hX : Y.l = X.l) : ∀ {l m : List Gx}, m.map gpl = l.map gpl → (gset m g Y).map gpl = (gset l g X).map gpl
  | [], [], _ => by unfold gset gpl; simp [hX]
  | [], _ :: _, h => by simp at h
  | _ :: _, [], h => by simp at h
  | y :: l, z :: m, h => by
    simp only [List.map_cons, List.cons.injEq] at h
    obtain ⟨h1, h2⟩ := h
    have h1' := h1
    unfold gpl at h1'
    obtain ⟨e1, e2⟩ := Prod.mk.inj h1'
    unfold gset
    rw [e1]
    split
    · simp only [List.map_cons, h2]
      unfold gpl; simp [hX]
    · simp only [List.map_cons, h1, gset_pl hX h2]
theorem sort_uniq {α : Type} {cf : α → α → Int} (hc : ∀ a b, cf a b = - cf b a) {l m : List α} (hp : l.Perm m) (h1 : l.Pairwise fun x y => cf x y < 0) (h2 : m.Pairwise fun x y => cf x y < 0) : l = m :=
  perm_uniq39 (R := fun x y => cf x y < 0) hp h1 h2 fun a _ b _ h3 h4 => by
    have := hc a b
    omega
theorem MoE.step {k i g a now : Int} {t : ByteArray} {M N M' N' : Mo} (h : MoE M N) (h1 : stpM k i g a now t M M') (h2 : stpM k i g a now t N N') (s1 : M'.es.Pairwise fun x y => cfM x.s y.s < 0) (s2 : N'.es.Pairwise fun x y => cfM x.s y.s < 0) : MoE M' N' := by
  unfold stpM at h1 h2
  generalize (k.tmod 8).toNat = j at h1 h2
  match j, h1, h2 with
  | 0, h1, h2 =>
    simp only at h1 h2
    rw [h.sub] at h2
    rcases h1 with ⟨a1, L, b1, rfl⟩ | ⟨a1, rfl⟩ <;> rcases h2 with ⟨a2, L2, b2, rfl⟩ | ⟨a2, rfl⟩
    · refine ⟨h.room, h.days, ?_, h.gs⟩
      rw [h.es] at b2
      exact sort_uniq (cf := fun x y : En => cfM x.s y.s) (fun a b => cfM_ord.anti a.s b.s) (b2.trans b1.symm) s2 s1
    · exact absurd a1 a2
    · exact absurd a2 a1
    · exact h
  | 1, h1, h2 =>
    simp only at h1 h2
    subst h1 h2
    unfold xclM
    rw [(h.cl _ _ _).1, (h.cl _ _ _).2]
    split
    · exact h.up _ _
    · exact h
  | 2, h1, h2 =>
    simp only at h1 h2
    subst h1 h2
    unfold xrlM
    rw [h.rl]
    split
    · exact h.up _ _
    · exact h
  | 3, h1, h2 =>
    simp only at h1 h2
    subst h1 h2
    unfold xdcM
    rw [h.dc]
    split
    · exact h.up _ _
    · exact h
  | 4, h1, h2 =>
    simp only at h1 h2
    subst h1 h2
    unfold xdcM
    rw [h.dc]
    split
    · exact h.up _ _
    · exact h
  | 5, h1, h2 =>
    simp only at h1 h2
    subst h1 h2
    unfold xlpM
    split
    · exact ⟨h.room, h.days, by rw [h.es, h.days], h.gs⟩
    · exact h
  | 6, h1, h2 =>
    simp only at h1 h2
    subst h1 h2
    exact ⟨h.room, h.days, by rw [h.es], h.gs⟩
  | j + 7, h1, h2 =>
    simp only at h1 h2
    rcases h1 with ⟨a1, X, b1, c1, rfl⟩ | ⟨a1, rfl⟩ <;> rcases h2 with ⟨a2, Y, b2, c2, rfl⟩ | ⟨a2, rfl⟩
    · exact ⟨h.room, h.days, h.es, gset_pl (sort_uniq (cf := cfA) cfA_ord.anti (b2.trans b1.symm) c2 c1) h.gs⟩
    · exact absurd a1 a2
    · exact absurd a2 a1
    · exact h

/-! ### The groups' names -/
def NmD (M : Mo) : Prop := M.gs.Pairwise fun x y => x.g ≠ y.g
theorem gset_nm {g : ByteArray} {X : MX} : ∀ {l : List Gx}, (l.Pairwise fun x y => x.g ≠ y.g) → (gset l g X).Pairwise fun x y => x.g ≠ y.g
  | [], _ => by unfold gset; simp
  | y :: l, h => by
    have h1 := List.pairwise_cons.1 h
    unfold gset
    split
    · rename_i e
      exact List.pairwise_cons.2 ⟨fun z hz => by show g ≠ z.g; rw [← e]; exact h1.1 z hz, h1.2⟩
    · rename_i e
      refine List.pairwise_cons.2 ⟨fun z hz => ?_, gset_nm h1.2⟩
      rcases gset_mem hz with rfl | hz
      · exact e
      · exact h1.1 z hz
theorem NmD.step {k i g a now : Int} {t : ByteArray} {M M' : Mo} (h : NmD M) (h1 : stpM k i g a now t M M') : NmD M' := by
  have hup : ∀ (k : Ky) (f : En → En), NmD (M.up k f) := fun _ _ => h
  unfold stpM at h1
  split at h1
  · rcases h1 with ⟨_, L, _, rfl⟩ | ⟨_, rfl⟩ <;> exact h
  · subst h1; unfold xclM; split <;> exact h
  · subst h1; unfold xrlM; split <;> exact h
  · subst h1; unfold xdcM; split <;> exact h
  · subst h1; unfold xdcM; split <;> exact h
  · subst h1; unfold xlpM; split <;> exact h
  · subst h1; exact h
  · rcases h1 with ⟨_, X, _, _, rfl⟩ | ⟨_, rfl⟩
    · exact gset_nm h
    · exact h
/-! ### When the queues are equal -/
/-- Every group that is kept has moderators. -/
def MsN (q : Qu) : Prop := ∀ g x, aget q.ms g = some x → x.l ≠ []
theorem MsN.is {q : Qu} (h : MsN q) (g : ByteArray) : (aget q.ms g).isSome = !decide ((q.md g).l = []) := by
  unfold Qu.md
  cases hg : aget q.ms g with
  | none => rfl
  | some x => simp [h g x hg]
end Go.Proofs.YtfacflbmlfbeeaaGreatDoor

/- Chapter 39: the contracts of the queue's functions, told by the model beside it. Bytes are bytes; lists are not too long. -/
namespace Go.Proofs.YtfacflbmlfbeeaaGreatDoor
open Go.RowKit Go.Sort Go.Maps

/-- What stays true from operation to operation. -/
structure St (r d : Int) (M : Mo) : Prop where
  room : M.room = r
  days : M.days = d
  ws : (ws M : Int) ≤ M.room
  ho : HoI M
theorem St.step {r d k i g a now : Int} {t : ByteArray} {M M' : Mo} (h : St r d M) (hd : DisK M.es) (hs : stpM k i g a now t M M') : St r d M' := by
  obtain ⟨h1, h2, h3⟩ := ws_step hd hs h.ws
  exact ⟨h1.trans h.room, h2.trans h.days, by rw [h1]; exact h3, ho_step hd hs h.ho⟩
section
variable {w0 w : World} {b mb eb m n : Nat} {q : Qu} {M : Mo} {P : Pl}
theorem SW.list (h : SW w0 w b mb eb m q M P) (r : Rq n q M) (hn : n ≤ 10000) (hG : GW w0) (g : ByteArray) (st : Int) :
    Calls Tryz.prog 32 #[.pointer (some ⟨b, 0, none⟩), .string g, .int .i64 st] w fun e w' => (∃ (p : Option Addr) (c : Nat), e = .returned (.slice p (M.ls g st).length c) ∧ w'.ownsRow w.heap.size 48 54 (.slice p (M.ls g st).length c) (M.ls g st).length ((M.ls g st).flatMap sbC)) ∧ K0 w w' :=
  (list_any h.mq r.qo (by have := r.ql; omega) g st (h.gw hG)).mono fun e w' ⟨⟨p, c, l, he, hp, hs, ho⟩, k⟩ => by
    have e1 : l = M.ls g st := r.uniq hp hs
    subst e1
    exact ⟨⟨p, c, he, ho⟩, k⟩
theorem SW.count (h : SW w0 w b mb eb m q M P) (r : Rq n q M) (hn : n ≤ 10000) (hG : GW w0) (g : ByteArray) (st : Int) :
    Calls Tryz.prog 15 #[.pointer (some ⟨b, 0, none⟩), .string g, .int .i64 st] w fun e w' => e = .returned (.int .i64 ((M.ls g st).length : Nat)) ∧ K0 w w' :=
  (count_any h.mq r.qo (by have := r.ql; omega) g st (h.gw hG)).mono fun e w' ⟨he, k⟩ => by
    have e1 : (selE (lsP g st) q.es).length = (M.ls g st).length := (r.sel (lsP g st)).length_eq
    exact ⟨by rw [he, e1], k⟩
theorem SW.get (h : SW w0 w b mb eb m q M P) (r : Rq n q M) (id : Nat → Int) (hid : BY id) (g : ByteArray) (hg : g.size ≤ 1073741824) :
    Calls Tryz.prog 21 #[.pointer (some ⟨b, 0, none⟩), .agg (arrI .u8 id 32 0).toArray, .string g] w fun e w' => e = .returned (.tuple #[sbV ((fdL M.es (idI id, g)).getD enz).s, .bool (fdL M.es (idI id, g)).isSome]) ∧ K0 w w' :=
  (get_any h.mq id hid g hg).mono fun e w' ⟨he, k⟩ => by
    rw [r.fd]
    exact ⟨he, k⟩
theorem SW.hld (h : SW w0 w b mb eb m q M P) (r : Rq n q M) (id : Nat → Int) (hid : BY id) (g : ByteArray) (hg : g.size ≤ 1073741824) (now : Int) {y : En} (hy : fdL M.es (idI id, g) = some y) :
    Calls Tryz.prog 41 #[.pointer (some ⟨b, 0, none⟩), .agg (arrI .u8 id 32 0).toArray, .string g, .int .i64 now] w fun e w' => e = .returned (.tuple #[.agg (arrI .u8 (if (minB now && inE y now) = true then y.ho else fun _ => 0) 16 0).toArray, .bool (minB now && inE y now)]) ∧ K0 w w' :=
  (holder_any h.mq r.qo id hid g hg now).mono fun e w' ⟨he, k⟩ => by
    have e1 : q.en (idI id, g) = y := en_some (by rw [← r.fd]; exact hy)
    unfold hldA hldB at he
    rw [e1] at he
    exact ⟨he, k⟩
theorem SW.mods (h : SW w0 w b mb eb m q M P) (r : Rq n q M) (g : ByteArray) (hg : g.size ≤ 1073741824) :
    Calls Tryz.prog 16 #[.pointer (some ⟨b, 0, none⟩), .string g] w fun e w' => (∃ (p : Option Addr) (c : Nat), e = .returned (.slice p (M.md g).l.length c) ∧ w'.ownsRow w.heap.size 45 16 (.slice p (M.md g).l.length c) (M.md g).l.length ((M.md g).l.flatMap auC)) ∧ K0 w w' :=
  (mods_any h.mq r.qo g hg).mono fun e w' h1 => by
    rw [r.ms] at h1
    exact h1
end

end Go.Proofs.YtfacflbmlfbeeaaGreatDoor

/- Chapter 39: the contract of the reference's All (code points of a text). Texts that are not too long. -/
namespace Go.Proofs.YtfacflbmlfbeeaaGreatDoor
open Go.RowKit

def i64C (x : Int) : List Value := [.int .i64 x]
theorem i64C_length (x : Int) : (i64C x).length = 1 := rfl
def Apart (a b : Value) : Prop := ∀ k, a.ownBlock = some k → b.ownBlock = some k → False
theorem none_own {n c k : Nat} (h : (Value.slice none n c).ownBlock = some k) : False := by simp [Value.ownBlock] at h
set_option maxRecDepth 100000 in
set_option maxHeartbeats 2000000 in
theorem xall_any (s : ByteArray) (w : World) (hs : s.size ≤ 1000000) : Calls Tryz.prog 58 #[.string s] w fun e w' => (∃ (p q : Option Addr) (n c c' : Nat) (out : List Int) (a er : Int), e = .returned (.tuple #[.slice p out.length c, .slice q n c', .int .i64 a, .int .i64 er]) ∧ RowA i64C 1 w' p out ∧ out.length ≤ s.size ∧ ((er = 0 ∧ rnB s = true ∧ out = rnL s) ∨ (er ≠ 0 ∧ rnB s = false))) ∧ K0 w w' := by
  have hsp := (rn_spec s).1
  generalize rnB s = B at hsp ⊢
  generalize rnL s = LL at hsp ⊢
  refine vc_xall s w _ ?_
  refine ⟨fun vs w' => ∃ (i : Nat) (p q : Option Addr) (n c c' : Nat) (xs : List Value) (out l : List Int), vs = [.int .i64 (i : Int), .slice q n c', .slice p out.length c] ∧ i ≤ s.size ∧ n ≤ i ∧ out.length ≤ i ∧ LL = out ++ l ∧ RN s i l B ∧ w'.ownsRow w.heap.size 3 1 (.slice q n c') n xs ∧ w'.ownsRow w.heap.size 3 1 (.slice p out.length c) out.length (out.flatMap i64C) ∧ Apart (.slice q n c') (.slice p out.length c) ∧ K0 w w',
    fun vs _ => (match vs with | .int _ a :: _ => s.size - a.toNat | _ => 0), ⟨0, none, none, 0, 0, 0, [], [], LL, rfl, by omega, by omega, Nat.le_refl _, rfl, hsp, World.ownsRow_nil _ _ _ _, World.ownsRow_nil _ _ _ _, fun k h _ => none_own h, .refl _ _⟩, ?_⟩
  rintro y q n c' p n1 c w1 ⟨i, p', q', n', cc, cc', xs, out, l, hv, hi, hni, hol, hLL, hR, ho1, ho2, hap, k1⟩
  simp only [List.cons.injEq, Value.int.injEq, Value.slice.injEq, true_and, and_true] at hv
  obtain ⟨rfl, ⟨rfl, rfl, rfl⟩, rfl, rfl, rfl⟩ := hv
  rw [Int.toNat_natCast]
  refine bsp_intro (fun hlt => ?_) (fun hge => ?_)
  rotate_left
  · have hge : s.size ≤ i := by simp at hge; omega
    obtain ⟨e1, e2⟩ := RN.det hR (.done hge)
    exact ⟨⟨p, q, n, c, c', out, 0, 0, rfl, RowA.own ho2 i64C_length (by decide), by omega, .inl ⟨rfl, e2, by rw [hLL, e1, List.append_nil]⟩⟩, k1⟩
  have hlt : i < s.size := by simp at hlt; omega
  refine ⟨⟨by omega, by omega⟩, ⟨(xfirst_any (s.extract i s.size) w1 (by rw [ext_size]; omega) (by rw [ext_size]; omega)).mono fun e w2 ⟨hd, k2⟩ => ?_⟩⟩
  have k02 := k1.trans k2
  have ho2' := owns_kp ho2 k2 (fun _ _ h => h)
  have ho1' := owns_kp ho1 k2 (fun _ _ h => h)
  cases hR with
  | done h => omega
  | bad h hu =>
    rw [hu] at hd
    obtain ⟨er, he0, he⟩ := hd
    refine ⟨_, _, _, he, .of_k0 k2, bsp_intro (fun _ => ⟨⟨p, q, n, c, c', out, _, er, rfl, RowA.own ho2' i64C_length (by decide), by omega, .inr ⟨he0, rfl⟩⟩, k02⟩) (fun h => by exfalso; simp at h; exact he0 h)⟩
  | @step _ r m l' _ h hu hr =>
    rw [hu] at hd
    have hn := u8R_pos hu
    rw [ext_size] at hn
    refine ⟨_, _, _, hd, .of_k0 k2, bsp_intro (fun h => by simp at h) (fun _ n2 W hW => ?_)⟩
    have kW : K0 w2 W := hW.kk rfl
    have hoW := owns_kp ho2' kW (fun _ _ h => h)
    have hqW := owns_kp ho1' kW (fun _ _ h => h)
    refine ⟨w.heap.size, _, hoW, by omega, by omega, Nat.le_trans k02.size kW.size, fun p4 c4 w4 ho4 hg4 ha4 => ?_⟩
    have kg4 := kp_grown hg4
    have k04 : K0 w w4 := (k02.trans kW).fresh kg4 (fun j hj e => by have := own_ge hoW e; omega)
    have hq4 := owns_kp hqW kg4 (fun k hk e => hap k hk e)
    have hap4 : Apart (.slice q n c') (.slice p4 (out.length + 1) c4) := fun k hk e => by
      rcases ha4.own with h | h
      · rw [h] at e; exact hap k hk e
      · rw [h] at e
        cases e
        exact Nat.lt_irrefl _ (own_lt hqW hk)
    refine ⟨.of_kp kg4 (fun z hz => by cases hz), fun n3 W5 hW5 => ?_⟩
    have k5 : K0 w4 W5 := hW5.kk rfl
    have hq5 := owns_kp hq4 k5 (fun _ _ h => h)
    have ho5 := owns_kp ho4 k5 (fun _ _ h => h)
    refine ⟨w.heap.size, _, hq5, by omega, by omega, Nat.le_trans k04.size k5.size, fun p6 c6 w6 ho6 hg6 ha6 => ?_⟩
    have kg6 := kp_grown hg6
    have k06 : K0 w w6 := (k04.trans k5).fresh kg6 (fun j hj e => by have := own_ge hq5 e; omega)
    have hp6 := owns_kp ho5 kg6 (fun k hk e => hap4 k e hk)
    rw [wr64 (by omega) (by omega)]
    have e1 : (out ++ [r]).length = out.length + 1 := by simp
    have e2 : (out ++ [r]).flatMap i64C = out.flatMap i64C ++ [.int .i64 r] := by rw [List.flatMap_append]; rfl
    refine ⟨.of_kp kg6 (fun z hz => by cases hz), ⟨i + m, p4, p6, n + 1, c4, c6, _, out ++ [r], l', by rw [← Int.natCast_add, e1], by omega, by omega, by omega, by rw [hLL, List.append_assoc]; rfl, hr, ho6, by rw [e1, e2]; exact hp6, fun k hk e => ?_, k06⟩, by simp only [← Int.natCast_add, Int.toNat_natCast]; omega⟩
    rw [e1] at e
    rcases ha6.own with h | h
    · rw [h] at hk; exact hap4 k hk e
    · rw [h] at hk
      cases hk
      exact Nat.lt_irrefl _ (own_lt ho5 e)

end Go.Proofs.YtfacflbmlfbeeaaGreatDoor

/- Chapter 39: the contract of the reference's decide. Bytes are bytes; lists are not too long. -/
namespace Go.Proofs.YtfacflbmlfbeeaaGreatDoor
open Go.RowKit Go.Sort Go.Maps

theorem prt_no {s : ByteArray} {out : List Int} {er : Int} (h : (er = 0 ∧ rnB s = true ∧ out = rnL s) ∨ (er ≠ 0 ∧ rnB s = false)) {r : Int} (hr : r ∈ out) (hc : ctlB r = true) : prtB s = false := by
  unfold prtB
  rcases h with ⟨_, h1, h2⟩ | ⟨_, h1⟩
  · subst h2
    rw [h1, List.any_eq_true.2 ⟨r, hr, hc⟩]; rfl
  · rw [h1]; rfl
theorem prt_yes {s : ByteArray} {out : List Int} (h1 : rnB s = true) (h2 : out = rnL s) (hc : ∀ r ∈ out, ctlB r = false) : prtB s = true := by
  unfold prtB
  subst h2
  have : (rnL s).any ctlB = false := by
    rw [List.any_eq_false]
    intro r hr h
    rw [hc r hr] at h; cases h
  rw [h1, this]; rfl
set_option maxHeartbeats 4000000 in
set_option maxRecDepth 100000 in
theorem xdecide_any {w : World} {B m : Nat} {M : Mo} {P : Pl} (h : MoR w B m M P) (ho : M.OK) (f : Nat → Int) (hf : BY f) (g : ByteArray) (a : Nat → Int) (ha : BY a) (st : Int) (rs : ByteArray) (hrs : rs.size ≤ 1000000) (now : Int) :
    Calls Tryz.prog 27 #[.pointer (some ⟨m, 0, none⟩), .agg (arrI .u8 f 32 0).toArray, .string g, .agg (arrI .u8 a 16 0).toArray, .int .i64 st, .string rs, .int .i64 now] w fun e w' => e = .returned (.int .i64 (xdcE M f g a st rs now)) ∧ MoR w' B m (xdcM M f g a st rs now) P ∧ Kp (MF w B) w w' := by
  refine vc_xdecide m f g a st rs now w _ (fun n n1 W hW => ?_)
  have kW : K0 w W := hW.kk rfl
  have hel := ho.el
  have hgl := ho.gl
  have hfin : ∀ (E : Int), xdcE M f g a st rs now = E → E ≠ 0 → ∀ w', K0 w w' → Ending.returned (.int .i64 E) = Ending.returned (.int .i64 (xdcE M f g a st rs now)) ∧ MoR w' B m (xdcM M f g a st rs now) P ∧ Kp (MF w B) w w' := fun E hE h0 w' k => by
    have hM : xdcM M f g a st rs now = M := by unfold xdcM; rw [hE, if_neg h0]
    rw [hE, hM]
    exact ⟨rfl, h.k0 k, .mf0 k⟩
  refine ⟨(xmin_any now W).mono fun e w1 ⟨he, k1⟩ => ⟨_, he, .of_k0 k1, bsp_intro (fun h1 => ?_) (fun h1 => ?_)⟩⟩
  · exact hfin 2 (by unfold xdcE; rw [if_pos (minB_ft h1)]) (by decide) _ (kW.trans k1)
  have h1 := minB_ff h1
  have hn1 : ¬ minB now = false := by rw [h1]; decide
  have k01 := kW.trans k1
  have hE0 : (¬ (st = 2 ∧ 200 < rs.size)) → (¬ (st = 2 ∧ prtB rs = false)) → xdcE M f g a st rs now = if isMB (M.md g) a = false then 20 else match M.fd (idI f, g) with
    | none => 8
    | some y => if y.s.st ≠ 0 then 10 else if blk y (auI a) now = true then 25 else 0 := fun e1 e2 => by
    unfold xdcE
    rw [if_neg hn1, if_neg e1, if_neg e2] <;> rfl
  refine bsp_intro (fun h2 => bsp_intro (fun h3 => ?a) (fun h3 => ?b)) (fun h2 => ?c)
  case a =>
    have h2 : st = 2 := by simpa using h2
    have h3 : 200 < rs.size := by simp at h3; omega
    exact hfin 5 (by unfold xdcE; rw [if_neg hn1, if_pos ⟨h2, h3⟩]) (by decide) _ k01
  case' b =>
    have h2 : st = 2 := by simpa using h2
    have h3 : ¬ 200 < rs.size := by simp at h3; omega
    have h6 : prtB rs = false → xdcE M f g a st rs now = 6 := fun hp => by unfold xdcE; rw [if_neg hn1, if_neg (fun e => h3 e.2), if_pos ⟨h2, hp⟩]
    refine ⟨(xall_any rs w1 hrs).mono fun e w2 ⟨⟨p, q, n2, c, c', out, a2, er, he, hR, hol, hrn⟩, k2⟩ => ⟨_, _, _, _, _, _, _, _, he, .of_k0 k2, ?_⟩⟩
    refine ⟨fun vs w' => ∃ i : Nat, vs = [.int .i64 (i : Int)] ∧ i ≤ out.length ∧ (∀ j r, j < i → out[j]? = some r → ctlB r = false) ∧ K0 w2 w', fun vs _ => (match vs with | .int _ a :: _ => out.length - a.toNat | _ => 0), ⟨0, rfl, by omega, fun j y h => by omega, .refl _ _⟩, ?_⟩
    rintro x wt ⟨i, hv, hi, hno, k3⟩ hL
    simp only [List.cons.injEq, Value.int.injEq, true_and, and_true] at hv
    subst hv
    have k23 := k2.trans k3
    have kt := k01.trans k23
    refine bsp_intro (fun hlt => ?_) (fun hge => bsp_intro (fun h4 => ?_) (fun h4 => ?_))
    · have hlt : i < out.length := by simp at hlt; omega
      obtain ⟨y, b, o, hy, hp, hat⟩ := (hR.k0 k3).get hlt
      have hc : wt.cell? ⟨b, o + i, none⟩ = some (.int .i64 y) := by
        have := hat.cell (j := 0) rfl
        rw [Nat.mul_one] at this
        exact this
      rw [Int.toNat_natCast]
      refine nn_is hp ⟨⟨by omega, by omega⟩, y, hc, ⟨(xctl_any y wt).mono fun e w4 ⟨he, k4⟩ => ⟨_, he, .of_k0 k4, bsp_intro (fun h5 => ?_) (fun h5 => ?_)⟩⟩⟩
      · exact hfin 6 (h6 (prt_no hrn (List.mem_of_getElem? hy) h5)) (by decide) _ (kt.trans k4)
      · rw [inc64 (by omega)]
        refine ⟨⟨i + 1, rfl, hlt, fun j z hj hz => ?_, k3.trans k4⟩, by simp only [Int.toNat_natCast]; omega⟩
        by_cases e : j = i
        · subst e; rw [hy] at hz; cases hz; exact h5
        · exact hno j z (by omega) hz
    · have h4 : er ≠ 0 := by simpa using h4
      refine hfin 6 (h6 ?_) (by decide) _ kt
      rcases hrn with ⟨h5, _⟩ | ⟨_, h5⟩
      · exact absurd h5 h4
      · unfold prtB; rw [h5]; rfl
    have h4 : er = 0 := by simpa using h4
    have hi2 : i = out.length := by simp at hge; omega
    subst hi2
    have hprt : prtB rs = true := by
      rcases hrn with ⟨_, h5, h6⟩ | ⟨h5, _⟩
      · exact prt_yes h5 h6 fun r hr => by
          obtain ⟨j, hj⟩ := List.getElem?_of_mem hr
          exact hno j r (List.getElem?_eq_some_iff.1 hj).1 hj
      · exact absurd h4 h5
    have hE0 := hE0 (fun e => h3 e.2) (fun e => by rw [hprt] at e; cases e.2)
  case' c =>
    have h2 : st ≠ 2 := by simpa using h2
    have hE0 := hE0 (fun e => h2 e.1) (fun e => h2 e.1)
    have kt := k01
    revert kt
    generalize w1 = wt
    intro kt
  all_goals
    refine ⟨(xis_any (h.k0 kt) (by omega) g a ha (ho.md g)).mono fun e w4 ⟨he, k4⟩ => ⟨_, he, .of_k0 k4, bsp_intro (fun h4 => ?_) (fun h4 => ?_)⟩⟩
    · have h4 : isMB (M.md g) a = false := by simpa using h4
      exact hfin 20 (by rw [hE0, if_pos h4]) (by decide) _ (kt.trans k4)
    have h4 : isMB (M.md g) a = true := by simpa using h4
    rw [if_neg (by rw [h4]; decide)] at hE0
    have k04 := kt.trans k4
    refine ⟨(xfind39_any (h.k0 k04) (by omega) f hf (fun x hx => (ho.es x hx).1.s.id) g).mono fun e w5 ⟨hfd, k5⟩ => ?_⟩
    have k05 := k04.trans k5
    have h5 := h.k0 k05
    rcases hfd with ⟨he, hno⟩ | ⟨i, y, he, hy, hky⟩
    · exact ⟨_, he, .of_k0 k5, bsp_intro (fun _ => hfin 8 (by rw [hE0]; unfold Mo.fd; rw [no_fd hno]) (by decide) _ k05) (fun h => absurd h (by decide))⟩
    have hi : i < M.es.length := (List.getElem?_eq_some_iff.1 hy).1
    obtain ⟨y2, b, o, hy2, hp, hat⟩ := h5.rowE.get hi
    rw [hy] at hy2
    cases hy2
    have hfd : M.fd (idI f, g) = some y := dis_fd ho.dis hy hky
    rw [hfd] at hE0
    simp only at hE0
    have hyo := (ho.es y (List.mem_of_getElem? hy)).1
    refine ⟨_, he, .of_k0 k5, bsp_intro (fun hneg => ?_) (fun _ => ⟨_, _, _, h5.cE, nn_is hp ⟨⟨by omega, by omega⟩, y.s.st, by rw [Int.toNat_natCast]; exact hat.cell (j := 35) rfl, ?_⟩⟩)⟩
    · exfalso; simp at hneg; omega
    rw [Int.toNat_natCast]
    refine bsp_intro (fun h6 => ?_) (fun h6 => ⟨_, _, _, h5.cE, nn_is hp ⟨⟨by omega, by omega⟩, y.s.id, y.s.g, y.s.tx, y.s.r, y.s.st, y.s.mo, y.s.de, y.s.rs, y.le, y.ho, y.si, hat, ?_⟩⟩)
    · have h6 : y.s.st ≠ 0 := by simpa using h6
      exact hfin 10 (by rw [hE0, if_pos h6]) (by decide) _ k05
    have h6 : y.s.st = 0 := by simpa using h6
    rw [if_neg (by omega)] at hE0
    refine ⟨(xholder_any y now hyo.si w5).mono fun e w6 ⟨he, k6⟩ => ⟨_, _, he, .of_k0 k6, fun n6 => ⟨_, gimp_intro fun _ => auEq (hdA_by hyo now) ha, ?_⟩⟩⟩
    rw [hdW_blk y a now h6]
    have k06 := k05.trans k6
    refine bsp_intro (fun h7 W7 hW7 => ?_) (fun h7 W7 hW7 => ?_)
    · exact hfin 25 (by rw [hE0, if_pos h7]) (by decide) _ (hW7.k0 k06)
    have k7 : K0 w W7 := hW7.k0 k06
    rw [if_neg (by rw [h7]; decide)] at hE0
    have f0 := hW7.cells 0 rfl
    have f1 := hW7.cells 1 rfl
    have f2 := hW7.cells 2 rfl
    have hM : xdcM M f g a st rs now = { M with es := M.es.set i (plainE (finS39 y.s a now st rs)) } := by
      unfold xdcM
      rw [hE0, if_pos rfl]
      unfold Mo.up
      rw [← dis_set (fun y => plainE (finS39 y.s a now st rs)) ho.dis hy hky]
    refine ⟨(xend_any (h.k0 k7) hy st a rs now).mono fun e w8 ⟨he, h8, k8⟩ => ⟨he, .of_kp k8 (fun z hz => ?_), by rw [hE0], by rw [hM]; exact h8, (Kp.mf0 k7).mft k8⟩⟩
    simp only [List.mem_cons, List.not_mem_nil, or_false] at hz
    rcases hz with rfl | rfl | rfl
    · exact mf_no f0 rfl
    · exact mf_no f1 rfl
    · exact mf_no f2 rfl

end Go.Proofs.YtfacflbmlfbeeaaGreatDoor
