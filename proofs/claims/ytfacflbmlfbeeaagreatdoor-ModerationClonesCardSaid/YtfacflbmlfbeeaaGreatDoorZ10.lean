/- Chapter 39, plain: each operation keeps the two queues alike. -/
import Derived.Test.YtfacflbmlfbeeaaGreatDoorZ09
import Derived.Test.YtfacflbmlfbeeaaGreatDoorZ06
import Derived.Test.YtfacflbmlfbeeaaGreatDoorZ08
import Derived.Test.YtfacflbmlfbeeaaGreatDoorProg
import Derived.Test.YtfacflbmlfbeeaaGreatDoorZ02
import Derived.Test.YtfacflbmlfbeeaaGreatDoorZ04
import Derived.Test.YtfacflbmlfbeeaaGreatDoorZ03
import Derived.KernelRfl
namespace Go.Proofs.YtfacflbmlfbeeaaGreatDoor
open Go.RowKit Go.Sort Go.Maps
theorem idB_of {f g : Nat -> Int} (h : idI f = idI g) : idB f = idB g := congrArg (List.map fun x : Int => x.toNat.toUInt8) h
theorem cfM_congr {x x' y y' : Sb} (hx : x.ky = x'.ky) (hxr : x.r = x'.r) (hy : y.ky = y'.ky) (hyr : y.r = y'.r) : cfM x y = cfM x' y' := by
 unfold Sb.ky at hx hy
 obtain ⟨a1, a2⟩ := Prod.mk.inj hx
 obtain ⟨b1, b2⟩ := Prod.mk.inj hy
 unfold cfM cfT cfI
 rw [hxr, hyr, a2, b2, idB_of a1, idB_of b1]
theorem Rq.map {n : Nat} {q q' : Qu} {M : Mo} (h : Rq n q M) {G : En -> En} (hG : ∀ y ∈ M.es, (G y).s.ky = y.s.ky /\ (G y).s.r = y.s.r /\ ((G y).le = true -> (G y).s.st = 0)) (ho : q'.OK) (hr : q'.room = q.room) (hd : q'.days = q.days) (hm : q'.ms = q.ms)
  (hqd : q'.es.Pairwise fun p r => p.1 ≠ r.1) (hes : ∀ k, aget q'.es k = (aget q.es k).map G) : Rq n q' { M with es := M.es.map G } := by
 have hdis : DisK (M.es.map G) := List.pairwise_map.2 (h.dis.imp_of_mem fun {a b} ha hb hab e => hab (by rw [<- (hG a ha).1, <- (hG b hb).1]; exact e))
 exact {
  qo := ho
  room := by rw [hr]; exact h.room
  days := by rw [hd]; exact h.days
  qd := hqd
  dis := hdis
  fd := fun k => opt_ext fun e => by
   rw [hes k, fd_iff hdis, <- h.fd k]
   constructor
   ·rintro ⟨he, hk⟩
    obtain ⟨x, hx, rfl⟩ := List.mem_map.1 he
    rw [(hG x hx).1] at hk
    rw [(fd_iff h.dis).2 ⟨hx, hk⟩]; rfl
   ·intro he
    obtain ⟨x, hx, rfl⟩ := Option.map_eq_some_iff.1 he
    obtain ⟨h1, h2⟩ := (fd_iff h.dis).1 hx
    exact ⟨List.mem_map.2 ⟨x, h1, rfl⟩, by rw [(hG x h1).1]; exact h2⟩
  srt := List.pairwise_map.2 (h.srt.imp_of_mem fun {a b} ha hb hab => by
   rw [cfM_congr (hG a ha).1 (hG a ha).2.1 (hG b hb).1 (hG b hb).2.1]; exact hab)
  ms := fun g => by
   have : q'.md g = q.md g := by unfold Qu.md; rw [hm]
   rw [this]; exact h.ms g
  gs := h.gs
  gl := h.gl
  el := by show (M.es.map G).length <= n; rw [List.length_map]; exact h.el
  le := fun x hx hl => by
   obtain ⟨y, hy, rfl⟩ := List.mem_map.1 hx
   exact (hG y hy).2.2 hl }
theorem Rq.up {n : Nat} {q : Qu} {M : Mo} (h : Rq n q M) {k : Ky} {u v : En} {f : En -> En} {wt : Int} (hu : aget q.es k = some u) (hf : f u = v) (hky : v.s.ky = u.s.ky) (hr : v.s.r = u.s.r) (hle : v.le = true -> v.s.st = 0) (hq : ({ q with es := aset q.es k v, wt := wt } : Qu).OK) :
  Rq n { q with es := aset q.es k v, wt := wt } (M.up k f) := by
 have huk : u.s.ky = k := ((fd_iff h.dis).1 ((h.fd k).trans hu)).2
 have hy1 : ∀ y ∈ M.es, y.s.ky = k -> y = u := fun y hy e => by
  have := h.get hy
  rw [e, hu] at this
  cases this; rfl
 refine h.map (G := fun y => if y.s.ky = k then f y else y) (fun y hy => ?_) hq rfl rfl rfl (aset_dis h.qd k v) (fun c => ?_)
 ·split
  ·rename_i e
   cases hy1 y hy e
   rw [hf]
   exact ⟨hky, hr, hle⟩
  ·exact ⟨rfl, rfl, h.le y hy⟩
 ·show aget (aset q.es k v) c = _
  rw [aget_aset]
  split
  ·rename_i e
   subst e
   rw [hu]
   show _ = some (if u.s.ky = k then f u else u)
   rw [if_pos huk, hf]
  ·rename_i e
   cases hc : aget q.es c with
   | none => rfl
   | some x =>
    have := ((fd_iff h.dis).1 ((h.fd c).trans hc)).2
    show some x = some (if x.s.ky = k then f x else x)
    rw [if_neg (fun e2 => e (by rw [<- e2, this]))]
theorem Rq.filt {n : Nat} {q q' : Qu} {M : Mo} (h : Rq n q M) {P : En -> Bool} (ho : q'.OK) (hr : q'.room = q.room) (hd : q'.days = q.days) (hm : q'.ms = q.ms)
  (hqd : q'.es.Pairwise fun p r => p.1 ≠ r.1) (hes : ∀ k, aget q'.es k = (aget q.es k).filter P) : Rq n q' { M with es := M.es.filter P } := by
 have hdis : DisK (M.es.filter P) := h.dis.sublist List.filter_sublist
 exact {
  qo := ho
  room := by rw [hr]; exact h.room
  days := by rw [hd]; exact h.days
  qd := hqd
  dis := hdis
  fd := fun k => opt_ext fun e => by
   rw [hes k, fd_iff hdis, <- h.fd k, List.mem_filter, Option.filter_eq_some_iff, fd_iff h.dis]
   constructor
   ·rintro ⟨⟨a, b⟩, c⟩; exact ⟨⟨a, c⟩, b⟩
   ·rintro ⟨⟨a, c⟩, b⟩; exact ⟨⟨a, b⟩, c⟩
  srt := h.srt.sublist List.filter_sublist
  ms := fun g => by
   have : q'.md g = q.md g := by unfold Qu.md; rw [hm]
   rw [this]; exact h.ms g
  gs := h.gs
  gl := h.gl
  el := Nat.le_trans (List.length_filter_le _ _) h.el
  le := fun x hx hl => h.le x (List.mem_filter.1 hx).1 hl }
theorem cfE_ord : Ord3 fun x y : En => cfM x.s y.s := ⟨fun _ _ => cfM_ord.anti _ _, fun _ _ _ => cfM_ord.tlt _ _ _, fun _ _ _ => cfM_ord.el _ _ _, fun _ _ _ => cfM_ord.le _ _ _⟩
def xsubE (M : Mo) (id : Nat -> Int) (g tx : ByteArray) (now : Int) : Int := if minB now = false then 2 else if gnE g ≠ 0 then gnE g else if 65536 < tx.size then 5 else if (M.md g).l.length = 0 then 33 else if (M.fd (idI id, g)).isSome = true then 7 else if M.room <= ((M.ls ⟨#[]⟩ 0).length : Nat) then 9 else 0
theorem Rq.subE {n : Nat} {q : Qu} {M : Mo} (h : Rq n q M) (id : Nat -> Int) (g tx : ByteArray) (now : Int) : subE q id g tx now = xsubE M id g tx now := by
 unfold Go.Proofs.YtfacflbmlfbeeaaGreatDoor.subE xsubE
 have e : M.fd (idI id, g) = aget q.es (idI id, g) := h.fd _
 rw [e, h.ms, h.room, <- h.wt]
theorem Rq.ins {n : Nat} {q : Qu} {M : Mo} (h : Rq n q M) {id : Nat -> Int} {g tx : ByteArray} {now : Int} (hid : BY id /\ NZ 32 id) {L : List En} (h0 : xsubE M id g tx now = 0)
  (hp : L.Perm (newE id g tx now :: M.es)) (hs : L.Pairwise fun x y => cfM x.s y.s < 0) : Rq (n + 1) (subQ q id g tx now) { M with es := L } := by
 have h0q := (h.subE id g tx now).trans h0
 have hok := h.qo.sub (g := g) (tx := tx) (now := now) hid
 have hno : aget q.es (idI id, g) = none := by
  unfold Go.Proofs.YtfacflbmlfbeeaaGreatDoor.subE at h0q
  repeat' (split at h0q; · first | contradiction | omega)
  rename_i h7 _
  cases ha : aget q.es (idI id, g) with
  | none => rfl
  | some x => rw [ha] at h7; exact absurd rfl h7
 have eq : subQ q id g tx now = { q with es := aset q.es (idI id, g) (newE id g tx now), wt := q.wt + 1 } := by unfold subQ; rw [if_pos h0q]
 have hky : (newE id g tx now).s.ky = (idI id, g) := rfl
 have hnk : ∀ y ∈ M.es, y.s.ky ≠ (idI id, g) := fun y hy e => by
  have := h.get hy
  rw [e, hno] at this; cases this
 have hdis : DisK L := by
  refine (hp.pairwise_iff (R := fun x y : En => x.s.ky ≠ y.s.ky) (fun {a b} hab e => hab e.symm)).2 (List.pairwise_cons.2 ⟨fun y hy e => hnk y hy (by rw [<- e]; exact hky), h.dis⟩)
 rw [eq] at hok ⊢
 exact {
  qo := hok
  room := h.room
  days := h.days
  qd := aset_dis h.qd _ _
  dis := hdis
  fd := fun k => opt_ext fun e => by
   show fdL L k = some e ↔ aget (aset q.es (idI id, g) (newE id g tx now)) k = some e
   rw [fd_iff hdis, aget_aset, hp.mem_iff, List.mem_cons]
   by_cases hk : (idI id, g) = k
   ·rw [if_pos hk]
    subst hk
    constructor
    ·rintro ⟨rfl | hm, he⟩
     ·rfl
     ·exact absurd he (hnk e hm)
    ·intro he; cases he; exact ⟨.inl rfl, rfl⟩
   ·rw [if_neg hk, <- h.fd k, fd_iff h.dis]
    constructor
    ·rintro ⟨rfl | hm, he⟩
     ·exact absurd he hk
     ·exact ⟨hm, he⟩
    ·rintro ⟨hm, he⟩; exact ⟨.inr hm, he⟩
  srt := hs
  ms := h.ms
  gs := h.gs
  gl := Nat.le_succ_of_le h.gl
  el := by show L.length <= n + 1; rw [hp.length_eq, List.length_cons]; have := h.el; omega
  le := fun x hx hl => by
   rcases List.mem_cons.1 (hp.subset hx) with rfl | hx
   ·cases hl
   ·exact h.le x hx hl }
theorem Rq.sub_no {n : Nat} {q : Qu} {M : Mo} (h : Rq n q M) {id : Nat -> Int} {g tx : ByteArray} {now : Int} (h0 : xsubE M id g tx now ≠ 0) : Rq (n + 1) (subQ q id g tx now) M := by
 have h0q : Go.Proofs.YtfacflbmlfbeeaaGreatDoor.subE q id g tx now ≠ 0 := by rw [h.subE]; exact h0
 have : subQ q id g tx now = q := by unfold subQ; rw [if_neg h0q]
 rw [this]
 exact h.mono (by omega)
theorem Rq.clE {n : Nat} {q : Qu} {M : Mo} (h : Rq n q M) (g : ByteArray) (a : Nat -> Int) (now : Int) : clmE q g a now = xclE M g a now := by
 unfold clmE xclE
 rw [h.ism]
 have h1 := (h.sel (clP g (auI a) now)).length_eq
 have e : (isSel q g (auI a) now).length = ((M.es.filter (clP g (auI a) now)).map (·.s)).length := h1
 rw [e, List.length_map]
 cases hf : M.es.find? (clP g (auI a) now) with
 | none =>
  have : M.es.filter (clP g (auI a) now) = [] := List.filter_eq_nil_iff.2 fun x hx hc => by
   have := List.find?_eq_none.1 hf x hx
   rw [hc] at this; exact this rfl
  rw [this]
  simp
 | some x =>
  have hm := List.mem_of_find?_eq_some hf
  have hx := List.find?_some hf
  have h0 : (M.es.filter (clP g (auI a) now)).length ≠ 0 := fun e => by
   have := List.eq_nil_of_length_eq_zero e
   have hmm := List.mem_filter.2 ⟨hm, hx⟩
   rw [this] at hmm; cases hmm
  rw [if_neg (c := (M.es.filter (clP g (auI a) now)).length = 0) h0]
theorem find_first {α : Type} {P : α -> Bool} : ∀ {l : List α} {x : α}, l.find? P = some x -> ∃ t, l.filter P = x :: t
 | a :: l, x, h => by
  rw [List.find?_cons] at h
  rw [List.filter_cons]
  split at h
  ·rename_i hp
   cases h
   rw [if_pos hp]; exact ⟨_, rfl⟩
  ·rename_i hp
   rw [if_neg (by rw [hp]; decide)]
   exact find_first h
theorem Rq.clm {n : Nat} {q : Qu} {M : Mo} (h : Rq n q M) {g : ByteArray} {a : Nat -> Int} (ha : BY a /\ NZ 16 a) {now : Int} (h0 : xclE M g a now = 0) {x : Sb} (hx : x ∈ isSel q g (auI a) now) (hmin : ∀ y ∈ isSel q g (auI a) now, ¬ cfM y x < 0) :
  x = xclS M g a now /\ Rq n { q with es := aset q.es x.ky ⟨x, true, a, now⟩ } (xclM M g a now) := by
 have hmn : minB now = true := by
  unfold xclE at h0
  split at h0
  ·cases h0
  ·rename_i h1; simpa using h1
 have hn := minB_iff.1 hmn
 cases hf : M.es.find? (clP g (auI a) now) with
 | none =>
  unfold xclE at h0
  rw [hf, if_neg (by rw [hmn]; decide)] at h0
  split at h0 <;> cases h0
 | some e =>
  have eS : xclS M g a now = e.s := by unfold xclS; rw [if_pos h0, hf]; rfl
  have em := List.mem_of_find?_eq_some hf
  have ep := List.find?_some hf
  obtain ⟨t, ht⟩ := find_first hf
  have hsel := h.sel (clP g (auI a) now)
  rw [ht] at hsel
  have hxe : x = e.s := by
   have h1 : x ∈ (e :: t).map (·.s) := hsel.subset hx
   obtain ⟨y, hy, rfl⟩ := List.mem_map.1 h1
   rcases List.mem_cons.1 hy with rfl | hy
   ·rfl
   ·have hs2 : (e :: t).Pairwise fun x y => cfM x.s y.s < 0 := by rw [<- ht]; exact h.srt.sublist List.filter_sublist
    exact absurd ((List.pairwise_cons.1 hs2).1 y hy) (hmin e.s (hsel.symm.subset (List.mem_map.2 ⟨e, List.mem_cons_self, rfl⟩)))
  subst hxe
  refine ⟨eS.symm, ?_⟩
  have hst : e.s.st = 0 := by unfold clP at ep; simp at ep; exact ep.1.2
  have eM : xclM M g a now = M.up e.s.ky (fun y => ⟨y.s, true, a, now⟩) := by unfold xclM; rw [if_pos h0, eS]
  rw [eM]
  exact h.up (f := fun y => ⟨y.s, true, a, now⟩) (v := ⟨e.s, true, a, now⟩) (h.get em) rfl rfl rfl (fun _ => hst) (h.qo.clm h.qd hx ha hn)
theorem Rq.en {n : Nat} {q : Qu} {M : Mo} (h : Rq n q M) (k : Ky) : M.fd k = aget q.es k := h.fd k
theorem en_some {q : Qu} {k : Ky} {u : En} (h : aget q.es k = some u) : q.en k = u := by unfold Qu.en; rw [h]; rfl
theorem Rq.rlE {n : Nat} {q : Qu} {M : Mo} (h : Rq n q M) (id : Nat -> Int) (g : ByteArray) (a : Nat -> Int) (now : Int) : relE q id g a now = xrlE M (idI id, g) a now := by
 unfold relE xrlE
 rw [h.en]
 cases hg : aget q.es (idI id, g) with
 | none => simp
 | some u => rw [en_some hg]; simp
theorem Rq.rel {n : Nat} {q : Qu} {M : Mo} (h : Rq n q M) (id : Nat -> Int) (g : ByteArray) (a : Nat -> Int) (now : Int) : Rq n (relQ q id g a now) (xrlM M (idI id, g) a now) := by
 unfold relQ xrlM
 rw [<- h.rlE]
 split
 ·rename_i h0
  unfold relE at h0
  split at h0
  ·cases h0
  split at h0
  ·cases h0
  rename_i hc
  rw [not_or] at hc
  cases hg : aget q.es (idI id, g) with
  | none => rw [hg] at hc; exact absurd rfl hc.1
  | some u =>
   rw [en_some hg] at hc ⊢
   have ho := h.qo.es _ _ hg
   exact h.up (wt := q.wt) (f := fun y => plainE y.s) (v := plainE u.s) hg rfl rfl rfl (fun hl => by cases hl) (h.qo.put (v := plainE u.s) hg rfl ⟨⟨ho.1.s, by0, fun _ _ => rfl, ⟨by show (0 : Int) <= 0; decide, by show (0 : Int) <= _; decide⟩⟩, ho.2⟩)
 ·exact h
noncomputable def xdcE (M : Mo) (id : Nat -> Int) (g : ByteArray) (a : Nat -> Int) (st : Int) (rs : ByteArray) (now : Int) : Int :=
 if minB now = false then 2 else if st = 2 /\ 200 < rs.size then 5 else if st = 2 /\ prtB rs = false then 6 else if isMB (M.md g) a = false then 20 else match M.fd (idI id, g) with
 | none => 8
 | some y => if y.s.st ≠ 0 then 10 else if blk y (auI a) now = true then 25 else 0
noncomputable def xdcM (M : Mo) (id : Nat -> Int) (g : ByteArray) (a : Nat -> Int) (st : Int) (rs : ByteArray) (now : Int) : Mo := if xdcE M id g a st rs now = 0 then M.up (idI id, g) (fun y => plainE (finS39 y.s a now st rs)) else M
theorem Rq.dcE {n : Nat} {q : Qu} {M : Mo} (h : Rq n q M) (id : Nat -> Int) (g : ByteArray) (a : Nat -> Int) (st : Int) (rs : ByteArray) (now : Int) : xdcE M id g a st rs now = if minB now = false then 2 else if st = 2 /\ 200 < rs.size then 5 else if st = 2 /\ prtB rs = false then 6 else decE q id g a now := by
 unfold xdcE decE
 rw [h.en, h.ism]
 cases hg : aget q.es (idI id, g) with
 | none => simp
 | some u => rw [en_some hg]; simp
theorem Rq.apE {n : Nat} {q : Qu} {M : Mo} (h : Rq n q M) (id : Nat -> Int) (g : ByteArray) (a : Nat -> Int) (now : Int) : apE q id g a now = xdcE M id g a 1 ⟨#[]⟩ now := by
 rw [h.dcE]
 unfold Go.Proofs.YtfacflbmlfbeeaaGreatDoor.apE
 simp
theorem Rq.rjE {n : Nat} {q : Qu} {M : Mo} (h : Rq n q M) (id : Nat -> Int) (g : ByteArray) (a : Nat -> Int) (rs : ByteArray) (now : Int) : rejE q id g a rs now = xdcE M id g a 2 rs now := by
 rw [h.dcE]
 unfold rejE
 simp
theorem Rq.dec {n : Nat} {q : Qu} {M : Mo} (h : Rq n q M) {id : Nat -> Int} {g : ByteArray} {a : Nat -> Int} (ha : BY a /\ NZ 16 a) {st : Int} (hst : 1 <= st /\ st <= 3) {rs : ByteArray} (hr : rs.size <= 200) {now : Int} (h0 : xdcE M id g a st rs now = 0) :
  Rq n (decQ q id g a now st rs) (M.up (idI id, g) (fun y => plainE (finS39 y.s a now st rs))) := by
 have h0' := h0
 rw [h.dcE] at h0'
 have hmn : minB now = true := by
  split at h0'
  ·cases h0'
  ·rename_i h1; simpa using h1
 have hn := minB_iff.1 hmn
 have hd : decE q id g a now = 0 := by
  repeat' (split at h0'; · cases h0')
  exact h0'
 unfold decQ
 rw [if_pos hd]
 have hd' := hd
 unfold decE at hd'
 split at hd'
 ·cases hd'
 split at hd'
 ·cases hd'
 rename_i h8
 split at hd'
 ·cases hd'
 rename_i h10
 cases hg : aget q.es (idI id, g) with
 | none => rw [hg] at h8; exact absurd rfl h8
 | some u =>
  rw [en_some hg] at h10 ⊢
  have hs0 : u.s.st = 0 := by simpa using h10
  have hk : u.s.ky = (idI id, g) := ((h.qo.es _ _ hg).2.1).symm
  have hf := h.qo.fin hg hs0 ha hn hst hr
  have e : finQ q (finS39 u.s a now st rs) = { q with es := aset q.es (idI id, g) (plainE (finS39 u.s a now st rs)), wt := q.wt - 1 } := by
   unfold finQ
   have : (finS39 u.s a now st rs).ky = u.s.ky := rfl
   rw [this, hk]
  rw [e] at hf ⊢
  exact h.up (f := fun y => plainE (finS39 y.s a now st rs)) (v := plainE (finS39 u.s a now st rs)) hg rfl rfl rfl (fun hl => by cases hl) hf
theorem Rq.ap {n : Nat} {q : Qu} {M : Mo} (h : Rq n q M) {id : Nat -> Int} {g : ByteArray} {a : Nat -> Int} (ha : BY a /\ NZ 16 a) {now : Int} : Rq n (apQ q id g a now 1 ⟨#[]⟩) (xdcM M id g a 1 ⟨#[]⟩ now) := by
 unfold xdcM apQ
 split
 ·rename_i h1
  have : xdcE M id g a 1 ⟨#[]⟩ now = 2 := by unfold xdcE; rw [if_pos h1]
  rw [this]
  exact h
 ·rename_i h1
  split
  ·rename_i h0
   exact h.dec ha ⟨by decide, by decide⟩ (by decide) h0
  ·rename_i h0
   have : decE q id g a now ≠ 0 := fun e => h0 (by rw [h.dcE, if_neg h1, if_neg (by simp), if_neg (by simp)]; exact e)
   unfold decQ
   rw [if_neg this]; exact h
theorem Rq.rj {n : Nat} {q : Qu} {M : Mo} (h : Rq n q M) {id : Nat -> Int} {g : ByteArray} {a : Nat -> Int} (ha : BY a /\ NZ 16 a) {rs : ByteArray} {now : Int} : Rq n (rejQ q id g a rs now) (xdcM M id g a 2 rs now) := by
 unfold xdcM rejQ
 by_cases h1 : minB now = false
 ·rw [if_pos h1, if_neg (by unfold xdcE; rw [if_pos h1]; decide)]; exact h
 rw [if_neg h1]
 by_cases h2 : 200 < rs.size
 ·rw [if_pos h2, if_neg (by unfold xdcE; rw [if_neg h1, if_pos ⟨rfl, h2⟩]; decide)]; exact h
 rw [if_neg h2]
 by_cases h3 : prtB rs = false
 ·rw [if_pos h3, if_neg (by unfold xdcE; rw [if_neg h1, if_neg (fun e => h2 e.2), if_pos ⟨rfl, h3⟩]; decide)]; exact h
 rw [if_neg h3]
 split
 ·rename_i h0
  exact h.dec ha ⟨by decide, by decide⟩ (by omega) h0
 ·rename_i h0
  have : decE q id g a now ≠ 0 := fun e => h0 (by rw [h.dcE, if_neg h1, if_neg (fun e => h2 e.2), if_neg (fun e => h3 e.2)]; exact e)
  unfold decQ
  rw [if_neg this]; exact h
theorem nodup_ky {es : List En} (h : DisK es) (P : En -> Bool) : (((es.filter P).map (·.s)).map Sb.ky).Nodup := by
 rw [List.map_map]
 exact List.pairwise_map.2 (h.sublist List.filter_sublist)
open Classical in
theorem finA_ok {now : Int} (hn : 0 <= now /\ now <= 105190559) : ∀ (L : List Sb) (q : Qu), q.OK -> (q.es.Pairwise fun p r => p.1 ≠ r.1) -> (L.map Sb.ky).Nodup -> (∀ x ∈ L, ∃ u, aget q.es x.ky = some u /\ u.s = x /\ u.s.st = 0) ->
  (finA now q L).OK /\ ((finA now q L).es.Pairwise fun p r => p.1 ≠ r.1) /\ (finA now q L).room = q.room /\ (finA now q L).days = q.days /\ ∀ c, aget (finA now q L).es c = if c ∈ L.map Sb.ky then (aget q.es c).map (fun u => plainE (fin3 now u.s)) else aget q.es c
 | [], q, ho, hd, _, _ => ⟨ho, hd, rfl, rfl, fun c => by rw [if_neg (by simp)]; rfl⟩
 | x :: L, q, ho, hd, hN, hx => by
  obtain ⟨u, hu, hux, hu0⟩ := hx x List.mem_cons_self
  have hN2 := List.nodup_cons.1 hN
  have h1 : (finQ q (fin3 now x)).OK := by
   rw [<- hux]
   exact ho.fin hu hu0 ⟨by0, fun _ _ => rfl⟩ hn ⟨by decide, by decide⟩ (by decide)
  have hk : (fin3 now x).ky = x.ky := rfl
  have hes : (finQ q (fin3 now x)).es = aset q.es x.ky (plainE (fin3 now x)) := rfl
  have hd1 : (finQ q (fin3 now x)).es.Pairwise fun p r => p.1 ≠ r.1 := by rw [hes]; exact aset_dis hd _ _
  have hget : ∀ c, c ≠ x.ky -> aget (finQ q (fin3 now x)).es c = aget q.es c := fun c hc => by
   rw [hes, aget_aset, if_neg (fun e => hc e.symm)]
  obtain ⟨r1, r2, r3, r4, r5⟩ := finA_ok hn L (finQ q (fin3 now x)) h1 hd1 hN2.2 (fun y hy => by
   have : y.ky ≠ x.ky := fun e => hN2.1 (by rw [<- e]; exact List.mem_map.2 ⟨y, hy, rfl⟩)
   rw [hget _ this]
   exact hx y (List.mem_cons_of_mem _ hy))
  refine ⟨r1, r2, r3, r4, fun c => ?_⟩
  have : finA now q (x :: L) = finA now (finQ q (fin3 now x)) L := rfl
  rw [this, r5 c]
  by_cases hc : c = x.ky
  ·subst hc
   have e1 : x.ky ∉ L.map Sb.ky := hN2.1
   rw [if_neg e1, if_pos (by rw [List.map_cons]; exact List.mem_cons_self), hes, aget_aset, if_pos rfl, hu]
   show _ = some (plainE (fin3 now u.s))
   rw [hux]
  ·rw [hget c hc]
   have : (c ∈ List.map Sb.ky (x :: L)) ↔ c ∈ L.map Sb.ky := by
    rw [List.map_cons, List.mem_cons]
    exact ⟨fun h => h.resolve_left hc, .inr⟩
   by_cases hm : c ∈ L.map Sb.ky
   ·rw [if_pos hm, if_pos (this.2 hm)]
   ·rw [if_neg hm, if_neg (fun e => hm (this.1 e))]
theorem Rq.lap {n : Nat} {q : Qu} {M : Mo} (h : Rq n q M) {now : Int} (hmn : minB now = true) {L : List Sb} (hp : L.Perm (selE (lapP (now - q.days * 1440)) q.es)) (hs : L.Pairwise fun x y => ¬ cfM y x < 0) :
  L.map (fin3 now) = xlpL M now /\ Rq n (finA now q L) (xlpM M now) := by
 have hL := h.uniq hp hs
 have hn := minB_iff.1 hmn
 have hwp : ∀ x ∈ L, ∃ u, u ∈ M.es /\ lapP (now - q.days * 1440) u = true /\ u.s = x := fun x hx => by
  rw [hL] at hx
  obtain ⟨u, hu, rfl⟩ := List.mem_map.1 hx
  exact ⟨u, (List.mem_filter.1 hu).1, (List.mem_filter.1 hu).2, rfl⟩
 refine ⟨?_, ?_⟩
 ·unfold xlpL
  rw [if_pos hmn, hL, List.map_map, h.days]
  rfl
 obtain ⟨r1, r2, r3, r4, r5⟩ := finA_ok hn L q h.qo h.qd (by rw [hL]; exact nodup_ky h.dis _) (fun x hx => by
  obtain ⟨u, hu, hl, rfl⟩ := hwp x hx
  refine ⟨u, h.get hu, rfl, ?_⟩
  unfold lapP at hl
  simp at hl
  exact hl.1)
 unfold xlpM
 rw [if_pos hmn]
 refine h.map (fun y hy => ?_) r1 r3 r4 (finA_ms now L q) r2 (fun c => ?_)
 ·unfold lpF
  split
  ·exact ⟨rfl, rfl, fun hl => by cases hl⟩
  ·exact ⟨rfl, rfl, h.le y hy⟩
 ·rw [r5 c]
  cases hc : aget q.es c with
  | none => simp
  | some u =>
   have hm := (fd_iff h.dis).1 ((h.fd c).trans hc)
   have : c ∈ L.map Sb.ky ↔ lapP (now - M.days * 1440) u = true := by
    rw [h.days]
    constructor
    ·intro hcm
     obtain ⟨x, hx, hxc⟩ := List.mem_map.1 hcm
     obtain ⟨v, hv, hl, rfl⟩ := hwp x hx
     have := h.get hv
     rw [hxc, hc] at this
     cases this
     exact hl
    ·intro hl
     refine List.mem_map.2 ⟨u.s, ?_, hm.2⟩
     rw [hL]
     exact List.mem_map.2 ⟨u, List.mem_filter.2 ⟨hm.1, hl⟩, rfl⟩
   show _ = some (lpF (now - M.days * 1440) now u)
   unfold lpF
   by_cases hl : lapP (now - M.days * 1440) u = true
   ·rw [if_pos hl, if_pos (this.2 hl)]; rfl
   ·rw [if_neg hl, if_neg (fun e => hl (this.1 e))]
open Classical in
theorem delA_ok : ∀ (L : List Sb) (q : Qu), q.OK -> (q.es.Pairwise fun p r => p.1 ≠ r.1) -> (∀ x ∈ L, ∀ u, aget q.es x.ky = some u -> u.s.st ≠ 0) ->
  (delA q L).OK /\ ((delA q L).es.Pairwise fun p r => p.1 ≠ r.1) /\ (delA q L).room = q.room /\ (delA q L).days = q.days /\ (delA q L).ms = q.ms /\ ∀ c, aget (delA q L).es c = if c ∈ L.map Sb.ky then none else aget q.es c
 | [], q, ho, hd, _ => ⟨ho, hd, rfl, rfl, rfl, fun c => by rw [if_neg (by simp)]; rfl⟩
 | x :: L, q, ho, hd, hx => by
  have hget : ∀ c, aget (adel q.es x.ky) c = if x.ky = c then none else aget q.es c := fun c => aget_adel _ _ _
  have hd1 : (adel q.es x.ky).Pairwise fun p r => p.1 ≠ r.1 := hd.sublist List.filter_sublist
  have ho1 : ({ q with es := adel q.es x.ky } : Qu).OK := by
   refine ⟨ho.room, ho.days, ?_, ho.ms, fun k y hy => ?_⟩
   ·show q.wt = _
    rw [ho.wt]
    congr 2
    show _ = (adel q.es x.ky).filter _
    unfold adel
    rw [List.filter_filter]
    refine List.filter_congr fun p hp => ?_
    by_cases hk : p.1 = x.ky
    ·have hg : aget q.es x.ky = some p.2 := aget_at hd (by rw [<- hk]; exact hp)
     have := hx x List.mem_cons_self p.2 hg
     have e : (p.2.s.st == 0) = false := by simpa using this
     rw [e]; rfl
    ·simp [hk]
   ·have hy : aget (adel q.es x.ky) k = some y := hy
    rw [hget] at hy
    split at hy
    ·cases hy
    ·exact ho.es k y hy
  obtain ⟨r1, r2, r3, r4, r5, r6⟩ := delA_ok L { q with es := adel q.es x.ky } ho1 hd1 (fun y hy u hu => by
   have hu : aget (adel q.es x.ky) y.ky = some u := hu
   rw [hget] at hu
   split at hu
   ·cases hu
   ·exact hx y (List.mem_cons_of_mem _ hy) u hu)
  refine ⟨r1, r2, r3, r4, r5, fun c => ?_⟩
  have : delA q (x :: L) = delA { q with es := adel q.es x.ky } L := rfl
  rw [this, r6 c]
  show (if c ∈ L.map Sb.ky then none else aget (adel q.es x.ky) c) = _
  rw [hget c]
  by_cases hm : c ∈ L.map Sb.ky
  ·rw [if_pos hm, if_pos (by rw [List.map_cons]; exact List.mem_cons_of_mem _ hm)]
  ·rw [if_neg hm]
   by_cases hc : x.ky = c
   ·rw [if_pos hc, if_pos (by rw [List.map_cons, hc]; exact List.mem_cons_self)]
   ·rw [if_neg hc, if_neg (fun e => by
     rw [List.map_cons] at e
     rcases List.mem_cons.1 e with e | e
     ·exact hc e.symm
     ·exact hm e)]
theorem kp_fgt (bf : Int) (x : En) : kpP bf x = !fgtP bf x := by
 unfold kpP fgtP
 rw [show decide (x.s.de ≥ bf) = !decide (x.s.de < bf) by rw [Bool.eq_iff_iff]; simp]
 cases hb : (x.s.st == 0) <;> cases decide (x.s.de < bf) <;> simp [bne, hb]
theorem Rq.fgt {n : Nat} {q : Qu} {M : Mo} (h : Rq n q M) {bf : Int} {L : List Sb} (hp : L.Perm (selE (fgtP bf) q.es)) :
  ((L.length : Nat) : Int) = (M.es.length : Int) - ((M.es.filter (kpP bf)).length : Nat) /\ Rq n (delA q L) { M with es := M.es.filter (kpP bf) } := by
 have hpm := hp.trans (h.sel (fgtP bf))
 have hwp : ∀ x ∈ L, ∃ u, u ∈ M.es /\ fgtP bf u = true /\ u.s = x := fun x hx => by
  obtain ⟨u, hu, rfl⟩ := List.mem_map.1 (hpm.subset hx)
  exact ⟨u, (List.mem_filter.1 hu).1, (List.mem_filter.1 hu).2, rfl⟩
 refine ⟨?_, ?_⟩
 ·have h1 := hpm.length_eq
  rw [List.length_map] at h1
  have h2 : ∀ es : List En, (es.filter (fgtP bf)).length + (es.filter (kpP bf)).length = es.length := fun es => by
   induction es with
   | nil => rfl
   | cons y es ih =>
    rw [List.filter_cons, List.filter_cons, kp_fgt]
    cases fgtP bf y <;> simp <;> omega
  have := h2 M.es
  omega
 obtain ⟨r1, r2, r3, r4, r5, r6⟩ := delA_ok L q h.qo h.qd (fun x hx u hu => by
  obtain ⟨v, hv, hf, rfl⟩ := hwp x hx
  rw [h.get hv] at hu
  cases hu
  unfold fgtP at hf
  simp at hf
  exact hf.1)
 refine h.filt r1 r3 r4 r5 r2 (fun c => ?_)
 rw [r6 c]
 cases hc : aget q.es c with
 | none => simp
 | some u =>
  have hm := (fd_iff h.dis).1 ((h.fd c).trans hc)
  have : c ∈ L.map Sb.ky ↔ fgtP bf u = true := by
   constructor
   ·intro hcm
    obtain ⟨x, hx, hxc⟩ := List.mem_map.1 hcm
    obtain ⟨v, hv, hl, rfl⟩ := hwp x hx
    have := h.get hv
    rw [hxc, hc] at this
    cases this
    exact hl
   ·intro hl
    refine List.mem_map.2 ⟨u.s, ?_, hm.2⟩
    exact hpm.symm.subset (List.mem_map.2 ⟨u, List.mem_filter.2 ⟨hm.1, hl⟩, rfl⟩)
  rw [Option.filter_some, kp_fgt]
  by_cases hl : fgtP bf u = true
  ·rw [if_pos (this.2 hl), hl]; rfl
  ·have hl2 : fgtP bf u = false := by simpa using hl
   rw [if_neg (fun e => hl (this.1 e)), hl2]; rfl
theorem gset_find (g : ByteArray) (X : MX) (c : ByteArray) : ∀ l : List Gx, ((gset l g X).find? fun y => decide (y.g = c)) = if g = c then some ⟨g, X⟩ else l.find? fun y => decide (y.g = c)
 | [] => by
  unfold gset
  by_cases h : g = c <;> simp [h]
 | y :: r => by
  unfold gset
  by_cases h : y.g = g
  ·rw [if_pos h]
   by_cases hc : g = c
   ·rw [if_pos hc, List.find?_cons]
    simp [hc]
   ·rw [if_neg hc, List.find?_cons, List.find?_cons]
    have : ¬ y.g = c := fun e => hc (by rw [<- h, e])
    simp [hc, this]
  ·rw [if_neg h]
   rw [List.find?_cons, gset_find g X c r, List.find?_cons]
   by_cases hc : y.g = c
   ·have : ¬ g = c := fun e => h (by rw [e, hc])
    simp [hc, this]
   ·simp [hc]
theorem gset_md (M : Mo) (g : ByteArray) (X : MX) (c : ByteArray) : ({ M with gs := gset M.gs g X } : Mo).md c = if g = c then X else M.md c := by
 unfold Mo.md
 show (((gset M.gs g X).find? _).map _).getD _ = _
 rw [gset_find]
 split <;> rfl
theorem gset_mem {g : ByteArray} {X : MX} {y : Gx} : ∀ {l : List Gx}, y ∈ gset l g X -> y = ⟨g, X⟩ \/ y ∈ l
 | [], h => by unfold gset at h; exact .inl (by simpa using h)
 | z :: r, h => by
  unfold gset at h
  split at h
  ·rcases List.mem_cons.1 h with h | h
   ·exact .inl h
   ·exact .inr (List.mem_cons_of_mem _ h)
  ·rcases List.mem_cons.1 h with h | h
   ·exact .inr (by rw [h]; exact List.mem_cons_self)
   ·exact (gset_mem h).imp id (List.mem_cons_of_mem _)
theorem gset_len (g : ByteArray) (X : MX) : ∀ l : List Gx, (gset l g X).length <= l.length + 1
 | [] => by simp [gset]
 | y :: r => by
  unfold gset
  split
  ·simp
  ·have := gset_len g X r
   simp only [List.length_cons]; omega
theorem Rq.setr {n : Nat} {q q' : Qu} {M : Mo} (h : Rq n q M) {g : ByteArray} {l : List (Nat -> Int)} (hl : ∀ m ∈ l, BY m /\ NZ 16 m) (hR : setR q g l q') {X : MX} (h0 : setE g l = 0) (hp : X.l.Perm l) (hs : X.l.Pairwise fun x y => cfA x y < 0) :
  Rq (n + 1) q' { M with gs := gset M.gs g X } := by
 have hok := h.qo.setR hl hR
 have h8 : l.length <= 8 := by
  unfold setE at h0
  split at h0
  ·contradiction
  ·split at h0
   ·cases h0
   ·omega
 have hbase : q'.room = q.room /\ q'.days = q.days /\ q'.es = q.es /\ ∀ c, (q'.md c).l = if g = c then X.l else (q.md c).l := by
  rcases hR with ⟨h1, _⟩ | ⟨_, rfl, rfl⟩ | ⟨_, hne, x, hxp, hxs, _, rfl⟩
  ·exact absurd h0 h1
  ·refine ⟨rfl, rfl, rfl, fun c => ?_⟩
   show (((aget (adel q.ms g) c).getD mxz)).l = _
   rw [aget_adel]
   split
   ·rw [List.perm_nil.1 hp]; rfl
   ·rfl
  ·refine ⟨rfl, rfl, rfl, fun c => ?_⟩
   show (((aget (aset q.ms g x) c).getD mxz)).l = _
   rw [aget_aset]
   split
   ·show x.l = X.l
    refine perm_uniq39 (R := fun x y => ¬ cfA y x < 0) (hxp.trans hp.symm) hxs (hs.imp fun {a b} hab hc => ?_) (fun a ha b hb h1 h2 => ?_)
    ·have : cfA a b = - cfA b a := cb_anti _ _
     omega
    ·have e : cfA a b = - cfA b a := cb_anti _ _
     have e0 : auB a = auB b := cb_zero _ _ (by unfold cfA at h1 h2 e; omega)
     have ma := hl a (hxp.subset ha)
     have mb := hl b (hxp.subset hb)
     exact nz_eq ma.2 mb.2 (auB_inj ma.1 mb.1 e0)
   ·rfl
 obtain ⟨b1, b2, b3, b4⟩ := hbase
 exact {
  qo := hok
  room := by rw [b1]; exact h.room
  days := by rw [b2]; exact h.days
  qd := by rw [b3]; exact h.qd
  dis := h.dis
  fd := fun k => by rw [b3]; exact h.fd k
  srt := h.srt
  ms := fun c => by
   rw [b4 c, gset_md]
   split
   ·rfl
   ·exact h.ms c
  gs := fun y hy => by
   rcases gset_mem hy with rfl | hy
   ·exact ⟨fun z hz => hl z (hp.subset hz), by show X.l.length <= 8; rw [hp.length_eq]; exact h8⟩
   ·exact h.gs y hy
  gl := by have := gset_len g X M.gs; have := h.gl; show (gset M.gs g X).length <= n + 1; omega
  el := Nat.le_succ_of_le h.el
  le := h.le }
theorem Rq.new (room days : Int) (h : newR room days = false) : Rq 0 ⟨room, days, 0, [], []⟩ ⟨room, days, [], []⟩ := by
 unfold newR at h
 simp at h
 exact ⟨⟨⟨h.1.1.1, h.1.1.2⟩, ⟨h.1.2, h.2⟩, rfl, fun g x h => (by cases h), fun k x h => (by cases h)⟩, rfl, rfl, List.Pairwise.nil, List.Pairwise.nil, fun k => rfl, List.Pairwise.nil, fun g => rfl, fun y hy => (by cases hy), by show (0 : Nat) <= 0; omega, by show (0 : Nat) <= 0; omega, fun x hx => (by cases hx)⟩
end Go.Proofs.YtfacflbmlfbeeaaGreatDoor
namespace Go.Proofs.YtfacflbmlfbeeaaGreatDoor
open Go.RowKit Go.Sort Go.Maps
set_option maxHeartbeats 1000000 in
theorem setModsQ_any {w : World} {b mb eb : Nat} {q : Qu} (h : Mq w b mb eb q) (hQ : QSep w q) (g : ByteArray) (l : List (Nat -> Int)) (p : Option Addr) (c : Nat) (hR : RowA auC 16 w p l) (hp : ∀ g o, p = some ⟨g, o, none⟩ -> g < w.heap.size) (hb : ∀ m ∈ l, BY m) (hG : GW w) :
  Calls Tryz.prog 38 #[.pointer (some ⟨b, 0, none⟩), .string g, .slice p l.length c] w fun e w' => e = .returned (.int .i64 (setE g l)) /\ (∃ q', setR q g l q' /\ Mq w' b mb eb q' /\ QSep w' q') /\ Kp (QB b mb eb) w w' := by
 refine vc_setMods b g p l.length c w _ ⟨(gcheck_any g w hG).mono fun e w1 ⟨he, k1⟩ => ⟨_, he, .of_k0 k1, bsp_intro (fun h1 => ?_) (fun h1 => bsp_intro (fun h2 => ?_) (fun h2 => ?_))⟩⟩
 ·have h1 : gnE g ≠ 0 := by simpa using h1
  have hE : setE g l = gnE g := by unfold setE; rw [if_pos h1]
  exact ⟨by rw [hE], ⟨q, .inl ⟨by rw [hE]; exact h1, rfl⟩, h.k0 k1, hQ.k0 k1⟩, k1.q0⟩
 ·have h1 : gnE g = 0 := by simpa using h1
  have h2 : 8 < l.length := by simp at h2; omega
  have hE : setE g l = 9 := by unfold setE; rw [if_neg (by omega), if_pos h2]
  exact ⟨by rw [hE], ⟨q, .inl ⟨by rw [hE]; decide, rfl⟩, h.k0 k1, hQ.k0 k1⟩, k1.q0⟩
 have h1 : gnE g = 0 := by simpa using h1
 have h2 : ¬ 8 < l.length := by simp at h2; omega
 have hgs := gnE_sz39 h1
 refine ⟨(avalues_any p l.length c w1).mono fun e w2 ⟨⟨Bs, he, hc, hlt⟩, k2⟩ => ⟨_, he, .of_k0 k2, ?_⟩⟩
 have k02 := k1.trans k2
 refine ⟨(asorted_any l p c Bs w2 hc hlt (hR.k0 k02) (fun g o e => Nat.lt_of_lt_of_le (hp g o e) k02.size) (by omega)).mono fun e w3 ⟨⟨p', c', l', he, hpm, hs, ho⟩, k3⟩ => ⟨_, _, _, he, .of_k0 k3, ?_⟩⟩
 have k03 := k02.trans k3
 have hl' := hpm.length_eq
 have hb' : ∀ m ∈ l', BY m := fun m hm => hb m (hpm.subset hm)
 refine ⟨(aclone_any l' p' c' w3 (RowA.own ho auC_length (by decide)) (by omega)).mono fun e w4 hcl => ?_⟩
 obtain ⟨⟨p4, c4, he, ho4⟩, k4⟩ := hcl
 refine ⟨_, _, _, he, .of_k0 k4, ?_⟩
 refine ⟨(acompact_any l' p4 c4 w4 ho4 hb' (by omega)).mono fun e w5 ⟨⟨m, he, hm⟩, k5⟩ => ⟨_, _, _, he, .of_kp k5 (fun z hz => by cases hz), ?_⟩⟩
 have k35 : K0 w3 w5 := k4.fresh k5 (fun i hi e => by have := own_ge ho4 e; omega)
 have k05 := k03.trans k35
 have hadj := sorted_adj hs hb'
 have hnd : (l'.map auI).Nodup ↔ (l.map auI).Nodup := (hpm.map auI).nodup_iff
 refine bsp_intro (fun h3 => ?_) (fun h3 => ?_)
 ·have h3 : m < l.length := by simp at h3; omega
  have hE : setE g l = 7 := by
   unfold setE
   rw [if_neg (by omega), if_neg h2, if_neg]
   intro hn
   rcases hm with ⟨rfl, _⟩ | ⟨_, ha⟩
   ·omega
   ·exact (hadj.1 ha) (hnd.2 hn)
  exact ⟨by rw [hE], ⟨q, .inl ⟨by rw [hE]; decide, rfl⟩, h.k0 k05, hQ.k0 k05⟩, k05.q0⟩
 have h3 : ¬ m < l.length := by simp at h3; omega
 have hE : setE g l = 0 := by
  unfold setE
  rw [if_neg (by omega), if_neg h2, if_pos]
  rcases hm with ⟨_, ha⟩ | ⟨hlt, _⟩
  ·exact hnd.1 (Classical.byContradiction fun hn => ha (hadj.2 hn))
  ·omega
 have h5 := h.k0 k05
 refine bsp_intro (fun h4 => ?_) (fun h4 => ?_)
 ·have h4 : l'.length = 0 := by simpa using h4
  obtain ⟨w6, hbl, h6, k6⟩ := h5.delM (g := g) (by omega)
  refine ⟨some mb, h5.cM, w6, hbl, .of_kp k6 (fun z hz => by cases hz), by rw [hE], ⟨_, .inr (.inl ⟨hE, List.eq_nil_of_length_eq_zero (by omega), rfl⟩), h6, fun g' x hx => (hQ.k0 k05).qb h5 (k6.qb (fun k e => .inr (.inl e))) g' x (by
   have hx : aget (adel q.ms g) g' = some x := hx
   rw [aget_adel] at hx
   split at hx
   ·cases hx
   ·exact hx)⟩, k05.q0.trans (k6.qb (fun k e => .inr (.inl e)))⟩
 ·have h4 : ¬ l'.length = 0 := by simpa using h4
  have hR' : RowA auC 16 w5 p' l' := (RowA.own ho auC_length (by decide)).k0 k35
  obtain ⟨w6, hu, h6, k6⟩ := h5.updM ⟨l', p', c'⟩ hR' (g := g) (by omega)
  refine ⟨some mb, h5.cM, bsp_intro (fun h => by cases h) (fun _ => ⟨some mb, h5.cM, w6, hu, .of_kp k6 (fun z hz => by cases hz), by rw [hE], ⟨_, .inr (.inr ⟨hE, fun e => h4 (by rw [hl', e]; rfl), ⟨l', p', c'⟩, hpm, hs, own_le ho, rfl⟩), h6, fun g' x hx => by
   have k6' : Kp (QB b mb eb) w5 w6 := k6.qb (fun k e => .inr (.inl e))
   have hx : aget (aset q.ms g ⟨l', p', c'⟩) g' = some x := hx
   rw [aget_aset] at hx
   split at hx
   ·cases hx
    exact ((TyA.own ho).k0 k35).kp k6' (fun _ _ _ hc => h5.not_ty hc (by decide))
   ·exact (hQ.k0 k05).qb h5 k6' g' x hx⟩, k05.q0.trans (k6.qb (fun k e => .inr (.inl e)))⟩)⟩
end Go.Proofs.YtfacflbmlfbeeaaGreatDoor
namespace Go.Proofs.YtfacflbmlfbeeaaGreatDoor
open Go.RowKit Go.Sort Go.Maps
def k39 (v : Int) : Nat -> Int
 | 0 => v
 | _ + 1 => 0
theorem k39_BY {v : Int} (h : 0 <= v /\ v <= 255) : BY (k39 v) := fun j => by cases j <;> simp [k39] <;> omega
theorem k39_NZ {n : Nat} (h : 0 < n) (v : Int) : NZ n (k39 v) := fun j hj => by
 cases j with
 | zero => omega
 | succ j => rfl
def kG : ByteArray := ⟨#[103]⟩
def kX : ByteArray := ⟨#[116, 101, 120, 116, 32, 111, 102, 32, 120]⟩
def kY : ByteArray := ⟨#[116, 101, 120, 116, 32, 111, 102, 32, 121]⟩
def kex : En := newE (k39 7) kG kX 10
def key_ : En := newE (k39 3) kG kY 5
def kx : Ky := (idI (k39 7), kG)
def ky : Ky := (idI (k39 3), kG)
def key2 : En := ⟨key_.s, true, k39 1, 20⟩
def kex2 : En := ⟨kex.s, true, k39 2, 20⟩
def key3 : En := plainE (finS39 key_.s (k39 2) 80 1 ⟨#[]⟩)
def kq (x : MX) (wt : Int) (es : List (Ky × En)) : Qu := ⟨5, 14, wt, [(kG, x)], es⟩
def kM (x : MX) : Prop := x.l.Perm [k39 2, k39 1]
theorem kq_md {x : MX} {wt : Int} {es : List (Ky × En)} : (kq x wt es).md kG = x := by unfold Qu.md kq; simp [aget]
theorem kM_is {x : MX} (h : kM x) (i : Int) (hi : i = 1 \/ i = 2) : isMB x (k39 i) = true := by
 unfold isMB
 rw [decide_eq_true_eq]
 refine List.mem_map.2 ⟨k39 i, h.symm.subset ?_, rfl⟩
 rcases hi with rfl | rfl <;> simp
theorem kxy : ¬ kx = ky := by decide +kernel
theorem k_set : setE kG [k39 2, k39 1] = 0 := by
 unfold setE
 rw [if_neg (by decide +kernel), if_neg (by decide), if_pos]
 have h : auI (k39 2) ≠ auI (k39 1) := by decide +kernel
 simp [h]
theorem kset_iff {q' : Qu} (h : setR ⟨5, 14, 0, [], []⟩ kG [k39 2, k39 1] q') : ∃ x, kM x /\ q' = kq x 0 [] := by
 rcases h with ⟨h, _⟩ | ⟨_, h, _⟩ | ⟨_, _, x, hp, _, _, rfl⟩
 ·exact absurd k_set h
 ·cases h
 ·exact ⟨x, hp, rfl⟩
theorem k_gn : gnE kG = 0 := by decide +kernel
theorem k_sub1 {x : MX} (h : kM x) : subE (kq x 0 []) (k39 7) kG kX 10 = 0 := by
 unfold subE
 rw [if_neg (by decide), if_neg (by rw [k_gn]; decide), if_neg (by decide), kq_md, if_neg (by rw [h.length_eq]; decide), if_neg (by show ¬ (aget [] _).isSome = true; decide), if_neg (by show ¬ (5 : Int) <= 0; decide)]
theorem k_subQ1 {x : MX} (h : kM x) : subQ (kq x 0 []) (k39 7) kG kX 10 = kq x 1 [(kx, kex)] := by
 unfold subQ
 rw [if_pos (k_sub1 h)]
 rfl
theorem k_a1 : aget [(kx, kex)] ky = none := by unfold aget; rw [if_neg kxy]; rfl
theorem k_sub2 {x : MX} (h : kM x) : subE (kq x 1 [(kx, kex)]) (k39 3) kG kY 5 = 0 := by
 unfold subE
 rw [if_neg (by decide), if_neg (by rw [k_gn]; decide), if_neg (by decide), kq_md, if_neg (by rw [h.length_eq]; decide), if_neg (by show ¬ (aget [(kx, kex)] ky).isSome = true; rw [k_a1]; decide), if_neg (by show ¬ (5 : Int) <= 1; decide)]
theorem k_subQ2 {x : MX} (h : kM x) : subQ (kq x 1 [(kx, kex)]) (k39 3) kG kY 5 = kq x 2 [(kx, kex), (ky, key_)] := by
 unfold subQ
 rw [if_pos (k_sub2 h)]
 show kq x 2 (aset [(kx, kex)] ky key_) = _
 unfold aset
 rw [if_neg kxy]
 rfl
theorem k_s1 : ∀ e1 e2 : En, selE (clP kG (auI (k39 1)) 20) [(kx, e1), (ky, e2)] = (if clP kG (auI (k39 1)) 20 e1 = true then [e1.s] else []) ++ (if clP kG (auI (k39 1)) 20 e2 = true then [e2.s] else []) := fun e1 e2 => by
 unfold selE
 rw [List.filter_cons, List.filter_cons, List.filter_nil]
 split <;> split <;> rfl
theorem k_s2 : ∀ e1 e2 : En, selE (clP kG (auI (k39 2)) 20) [(kx, e1), (ky, e2)] = (if clP kG (auI (k39 2)) 20 e1 = true then [e1.s] else []) ++ (if clP kG (auI (k39 2)) 20 e2 = true then [e2.s] else []) := fun e1 e2 => by
 unfold selE
 rw [List.filter_cons, List.filter_cons, List.filter_nil]
 split <;> split <;> rfl
theorem k_c1 : clP kG (auI (k39 1)) 20 kex = true := by decide +kernel
theorem k_c2 : clP kG (auI (k39 1)) 20 key_ = true := by decide +kernel
theorem k_c3 : clP kG (auI (k39 1)) 20 key2 = true := by decide +kernel
theorem k_c4 : clP kG (auI (k39 2)) 20 kex = true := by decide +kernel
theorem k_c5 : clP kG (auI (k39 2)) 20 key2 = false := by decide +kernel
theorem k_lt : cfM key_.s kex.s < 0 := by decide +kernel
theorem k_sel1 {x : MX} : isSel (kq x 2 [(kx, kex), (ky, key_)]) kG (auI (k39 1)) 20 = [kex.s, key_.s] := by
 show selE _ [(kx, kex), (ky, key_)] = _
 rw [k_s1, if_pos k_c1, if_pos k_c2]; rfl
theorem k_sel2 {x : MX} : isSel (kq x 2 [(kx, kex), (ky, key2)]) kG (auI (k39 1)) 20 = [kex.s, key_.s] := by
 show selE _ [(kx, kex), (ky, key2)] = _
 rw [k_s1, if_pos k_c1, if_pos k_c3]; rfl
theorem k_sel3 {x : MX} : isSel (kq x 2 [(kx, kex), (ky, key2)]) kG (auI (k39 2)) 20 = [kex.s] := by
 show selE _ [(kx, kex), (ky, key2)] = _
 rw [k_s2, if_pos k_c4, if_neg (by rw [k_c5]; decide)]; rfl
theorem k_min {s : Sb} (h : s ∈ [kex.s, key_.s]) (hm : ∀ y ∈ [kex.s, key_.s], ¬ cfM y s < 0) : s = key_.s := by
 rcases List.mem_cons.1 h with rfl | h
 ·exact absurd k_lt (hm key_.s (by simp))
 ·simpa using h
theorem k_clm {x : MX} (h : kM x) (i : Int) (hi : i = 1 \/ i = 2) {es : List (Ky × En)} (hs : (isSel (kq x 2 es) kG (auI (k39 i)) 20).length ≠ 0) : clmE (kq x 2 es) kG (k39 i) 20 = 0 := by
 unfold clmE
 rw [if_neg (by decide), kq_md, if_neg (by rw [kM_is h i hi]; decide), if_neg hs]
theorem k_set1 {e1 e2 v : En} : aset [(kx, e1), (ky, e2)] ky v = [(kx, e1), (ky, v)] := by
 unfold aset
 rw [if_neg kxy]
 unfold aset
 rw [if_pos rfl]
theorem k_set2 {e1 e2 v : En} : aset [(kx, e1), (ky, e2)] kx v = [(kx, v), (ky, e2)] := by
 unfold aset
 rw [if_pos rfl]
theorem k_gety {e1 e2 : En} : aget [(kx, e1), (ky, e2)] ky = some e2 := by
 unfold aget
 rw [if_neg kxy]
 unfold aget
 rw [if_pos rfl]
theorem k_en {x : MX} {e1 e2 : En} : (kq x 2 [(kx, e1), (ky, e2)]).en ky = e2 := by
 unfold Qu.en
 show (aget [(kx, e1), (ky, e2)] ky).getD enz = e2
 rw [k_gety]; rfl
theorem k_dec {x : MX} (h : kM x) {e1 : En} (now : Int) : decE (kq x 2 [(kx, e1), (ky, key2)]) (k39 3) kG (k39 2) now = if blk key2 (auI (k39 2)) now = true then 25 else 0 := by
 unfold decE
 rw [kq_md, if_neg (by rw [kM_is h 2 (.inr rfl)]; decide), if_neg (by show ¬ (aget [(kx, e1), (ky, key2)] ky).isSome = false; rw [k_gety]; decide)]
 have e : (kq x 2 [(kx, e1), (ky, key2)]).en (idI (k39 3), kG) = key2 := k_en
 rw [e, if_neg (by show ¬ (0 : Int) ≠ 0; decide)]
theorem k_b79 : blk key2 (auI (k39 2)) 79 = true := by decide +kernel
theorem k_b80 : blk key2 (auI (k39 2)) 80 = false := by decide +kernel
theorem k_ap79 {x : MX} (h : kM x) {e1 : En} : apE (kq x 2 [(kx, e1), (ky, key2)]) (k39 3) kG (k39 2) 79 = 25 := by
 unfold apE
 rw [if_neg (by decide), k_dec h, if_pos k_b79]
theorem k_ap80 {x : MX} (h : kM x) {e1 : En} : apE (kq x 2 [(kx, e1), (ky, key2)]) (k39 3) kG (k39 2) 80 = 0 := by
 unfold apE
 rw [if_neg (by decide), k_dec h, if_neg (by rw [k_b80]; decide)]
theorem k_apQ79 {x : MX} (h : kM x) {e1 : En} : apQ (kq x 2 [(kx, e1), (ky, key2)]) (k39 3) kG (k39 2) 79 1 ⟨#[]⟩ = kq x 2 [(kx, e1), (ky, key2)] := by
 unfold apQ decQ
 rw [if_neg (by decide), k_dec h, if_pos k_b79, if_neg (by decide)]
theorem k_apQ80 {x : MX} (h : kM x) {e1 : En} : apQ (kq x 2 [(kx, e1), (ky, key2)]) (k39 3) kG (k39 2) 80 1 ⟨#[]⟩ = kq x 1 [(kx, e1), (ky, key3)] := by
 unfold apQ decQ
 have e : (kq x 2 [(kx, e1), (ky, key2)]).en (idI (k39 3), kG) = key2 := k_en
 rw [if_neg (by decide), k_dec h, k_b80, if_pos (by decide), e]
 show kq x 1 (aset [(kx, e1), (ky, key2)] ky key3) = _
 rw [k_set1]
theorem k_l1 : lsP kG 1 kex2 = false := by decide +kernel
theorem k_l2 : lsP kG 1 key3 = true := by decide +kernel
theorem k_cnt : (selE (lsP kG 1) [(kx, kex2), (ky, key3)]).length = 1 := by
 unfold selE
 rw [List.filter_cons, if_neg (by rw [k_l1]; decide), List.filter_cons, if_pos k_l2]
 rfl
theorem kq0_ok : (⟨5, 14, 0, [], []⟩ : Qu).OK := ⟨⟨by decide, by decide⟩, ⟨by decide, by decide⟩, rfl, fun g x h => (by cases h), fun k x h => (by cases h)⟩
theorem kml : ∀ m ∈ [k39 2, k39 1], BY m /\ NZ 16 m := fun m hm => by
 simp only [List.mem_cons, List.not_mem_nil, or_false] at hm
 rcases hm with rfl | rfl
 ·exact ⟨k39_BY (by decide), k39_NZ (by decide) 2⟩
 ·exact ⟨k39_BY (by decide), k39_NZ (by decide) 1⟩
end Go.Proofs.YtfacflbmlfbeeaaGreatDoor
namespace Go.Proofs.YtfacflbmlfbeeaaGreatDoor
set_option maxRecDepth 100000
set_option linter.unusedVariables false
def VC_lknown (w : World) (R : Ending -> World -> Prop) : Prop := CallsS Tryz.prog 13 #[.int .i64 5, .int .i64 14] w fun (e : Ending) (w' : World) => ∃ (x : Option Addr) (x_1 : Int), e = .returned (.tuple #[.pointer x, .int .i64 x_1]) /\ KeptL [] w w' /\ bsp (x_1 != 0 || x.isNone) (R (.returned (.bool false)) w') (∀ (n n_1 n_2 n_3 n_4 : Nat) (W : World), Loc w.heap.size [Blk.mk n_4 45 [Value.int .u8 2, .int .u8 0, .int .u8 0, .int .u8 0, .int .u8 0, .int .u8 0, .int .u8 0, .int .u8 0, .int .u8 0, .int .u8 0, .int .u8 0, .int .u8 0, .int .u8 0, .int .u8 0, .int .u8 0, .int .u8 0, .int .u8 1, .int .u8 0, .int .u8 0, .int .u8 0, .int .u8 0, .int .u8 0, .int .u8 0, .int .u8 0, .int .u8 0, .int .u8 0, .int .u8 0, .int .u8 0, .int .u8 0, .int .u8 0, .int .u8 0, .int .u8 0] 2, Blk.mk n_3 32 [Value.int .u8 3, .int .u8 0, .int .u8 0, .int .u8 0, .int .u8 0, .int .u8 0, .int .u8 0, .int .u8 0,
 .int .u8 0, .int .u8 0, .int .u8 0, .int .u8 0, .int .u8 0, .int .u8 0, .int .u8 0, .int .u8 0, .int .u8 0, .int .u8 0, .int .u8 0, .int .u8 0, .int .u8 0, .int .u8 0, .int .u8 0, .int .u8 0, .int .u8 0, .int .u8 0, .int .u8 0, .int .u8 0, .int .u8 0, .int .u8 0, .int .u8 0, .int .u8 0] (wrM 2), Blk.mk n_2 32 [Value.int .u8 7, .int .u8 0, .int .u8 0, .int .u8 0, .int .u8 0, .int .u8 0, .int .u8 0, .int .u8 0, .int .u8 0, .int .u8 0, .int .u8 0, .int .u8 0, .int .u8 0, .int .u8 0, .int .u8 0, .int .u8 0, .int .u8 0, .int .u8 0, .int .u8 0, .int .u8 0, .int .u8 0, .int .u8 0, .int .u8 0, .int .u8 0, .int .u8 0, .int .u8 0, .int .u8 0, .int .u8 0, .int .u8 0, .int .u8 0, .int .u8 0, .int .u8 0] (wrM 2), Blk.mk n_1 45 [Value.int .u8 2, .int .u8 0, .int .u8 0, .int .u8 0, .int .u8 0, .int .u8 0, .int .u8 0, .int .u8 0, .int .u8 0, .int .u8 0, .int .u8 0, .int .u8 0,
 .int .u8 0, .int .u8 0, .int .u8 0, .int .u8 0] (wrM 2), Blk.mk n 45 [Value.int .u8 1, .int .u8 0, .int .u8 0, .int .u8 0, .int .u8 0, .int .u8 0, .int .u8 0, .int .u8 0, .int .u8 0, .int .u8 0, .int .u8 0, .int .u8 0, .int .u8 0, .int .u8 0, .int .u8 0, .int .u8 0] (wrM 2)] w' W -> CallsS Tryz.prog 38 #[.pointer x, .string (ByteArray.mk #[103]), .slice (some (Addr.mk n_4 0 none)) 2 2] W fun (e : Ending) (w' : World) => ∃ (x_2 : Int), e = .returned (.int .i64 x_2) /\ KeptL [n_3, n_2, n_1, n] W w' /\ CallsS Tryz.prog 18 #[.pointer x, .agg #[.int .u8 7, .int .u8 0, .int .u8 0, .int .u8 0, .int .u8 0, .int .u8 0, .int .u8 0, .int .u8 0, .int .u8 0, .int .u8 0, .int .u8 0, .int .u8 0, .int .u8 0, .int .u8 0, .int .u8 0, .int .u8 0, .int .u8 0, .int .u8 0, .int .u8 0, .int .u8 0, .int .u8 0, .int .u8 0, .int .u8 0, .int .u8 0, .int .u8 0, .int .u8 0, .int .u8 0, .int .u8 0,
 .int .u8 0, .int .u8 0, .int .u8 0, .int .u8 0], .string (ByteArray.mk #[103]), .string (ByteArray.mk #[116, 101, 120, 116, 32, 111, 102, 32, 120]), .int .i64 10] w' fun (e : Ending) (w'_1 : World) => ∃ (x_3 : Int), e = .returned (.int .i64 x_3) /\ KeptL [n_3, n_2, n_1, n] w' w'_1 /\ CallsS Tryz.prog 18 #[.pointer x, .agg #[.int .u8 3, .int .u8 0, .int .u8 0, .int .u8 0, .int .u8 0, .int .u8 0, .int .u8 0, .int .u8 0, .int .u8 0, .int .u8 0, .int .u8 0, .int .u8 0, .int .u8 0, .int .u8 0, .int .u8 0, .int .u8 0, .int .u8 0, .int .u8 0, .int .u8 0, .int .u8 0, .int .u8 0, .int .u8 0, .int .u8 0, .int .u8 0, .int .u8 0, .int .u8 0, .int .u8 0, .int .u8 0, .int .u8 0, .int .u8 0, .int .u8 0, .int .u8 0], .string (ByteArray.mk #[103]), .string (ByteArray.mk #[116, 101, 120, 116, 32, 111, 102, 32, 121]), .int .i64 5] w'_1 fun (e : Ending) (w' : World) => ∃ (x_4 : Int),
 e = .returned (.int .i64 x_4) /\ KeptL [n_3, n_2, n_1, n] w'_1 w' /\ CallsS Tryz.prog 39 #[.pointer x, .string (ByteArray.mk #[103]), .agg #[.int .u8 1, .int .u8 0, .int .u8 0, .int .u8 0, .int .u8 0, .int .u8 0, .int .u8 0, .int .u8 0, .int .u8 0, .int .u8 0, .int .u8 0, .int .u8 0, .int .u8 0, .int .u8 0, .int .u8 0, .int .u8 0], .int .i64 20] w' fun (e : Ending) (w'_2 : World) => ∃ (f : Nat -> Int) (x_5 : ByteArray), ∃ (x_6 : ByteArray) (x_7 : Int), ∃ (x_8 : Int) (f_1 : Nat -> Int), ∃ (x_9 : Int) (x_10 : ByteArray) (x_11 : Int), e = .returned (.tuple #[.agg (arrI .u8 f 32 0 ++ ([Value.string x_5, .string x_6, .int .i64 x_7, .int .i64 x_8] ++ arrI .u8 f_1 16 0 ++ [Value.int .i64 x_9, .string x_10])).toArray, .int .i64 x_11]) /\ KeptL [n_3, n_2, n_1, n] w' w'_2 /\ ∀ (n_5 : Nat) (W : World), Loc w.heap.size [Blk.mk n_5 48 (arrI .u8 f 32 0 ++ ([Value.string x_5,
 .string x_6, .int .i64 x_7, .int .i64 x_8] ++ arrI .u8 f_1 16 0 ++ [Value.int .i64 x_9, .string x_10])) (wrM 2), Blk.mk n_3 32 [Value.int .u8 3, .int .u8 0, .int .u8 0, .int .u8 0, .int .u8 0, .int .u8 0, .int .u8 0, .int .u8 0, .int .u8 0, .int .u8 0, .int .u8 0, .int .u8 0, .int .u8 0, .int .u8 0, .int .u8 0, .int .u8 0, .int .u8 0, .int .u8 0, .int .u8 0, .int .u8 0, .int .u8 0, .int .u8 0, .int .u8 0, .int .u8 0, .int .u8 0, .int .u8 0, .int .u8 0, .int .u8 0, .int .u8 0, .int .u8 0, .int .u8 0, .int .u8 0] 0, Blk.mk n_2 32 [Value.int .u8 7, .int .u8 0, .int .u8 0, .int .u8 0, .int .u8 0, .int .u8 0, .int .u8 0, .int .u8 0, .int .u8 0, .int .u8 0, .int .u8 0, .int .u8 0, .int .u8 0, .int .u8 0, .int .u8 0, .int .u8 0, .int .u8 0, .int .u8 0, .int .u8 0, .int .u8 0, .int .u8 0, .int .u8 0, .int .u8 0, .int .u8 0, .int .u8 0, .int .u8 0, .int .u8 0,
 .int .u8 0, .int .u8 0, .int .u8 0, .int .u8 0, .int .u8 0] 0, Blk.mk n_1 45 [Value.int .u8 2, .int .u8 0, .int .u8 0, .int .u8 0, .int .u8 0, .int .u8 0, .int .u8 0, .int .u8 0, .int .u8 0, .int .u8 0, .int .u8 0, .int .u8 0, .int .u8 0, .int .u8 0, .int .u8 0, .int .u8 0] 0, Blk.mk n 45 [Value.int .u8 1, .int .u8 0, .int .u8 0, .int .u8 0, .int .u8 0, .int .u8 0, .int .u8 0, .int .u8 0, .int .u8 0, .int .u8 0, .int .u8 0, .int .u8 0, .int .u8 0, .int .u8 0, .int .u8 0, .int .u8 0] 0] w'_2 W -> CallsS Tryz.prog 39 #[.pointer x, .string (ByteArray.mk #[103]), .agg #[.int .u8 1, .int .u8 0, .int .u8 0, .int .u8 0, .int .u8 0, .int .u8 0, .int .u8 0, .int .u8 0, .int .u8 0, .int .u8 0, .int .u8 0, .int .u8 0, .int .u8 0, .int .u8 0, .int .u8 0, .int .u8 0], .int .i64 20] W fun (e : Ending) (w' : World) => ∃ (f_2 : Nat -> Int) (x_12 : ByteArray), ∃ (x_13 : ByteArray) (x_14 : Int),
 ∃ (x_15 : Int) (f_3 : Nat -> Int), ∃ (x_16 : Int) (x_17 : ByteArray) (x_18 : Int), e = .returned (.tuple #[.agg (arrI .u8 f_2 32 0 ++ ([Value.string x_12, .string x_13, .int .i64 x_14, .int .i64 x_15] ++ arrI .u8 f_3 16 0 ++ [Value.int .i64 x_16, .string x_17])).toArray, .int .i64 x_18]) /\ KeptL [n_5, n_3, n_2, n_1, n] W w' /\ ∀ (n_6 : Nat) (W : World), Loc w.heap.size [Blk.mk n_6 48 (arrI .u8 f_2 32 0 ++ ([Value.string x_12, .string x_13, .int .i64 x_14, .int .i64 x_15] ++ arrI .u8 f_3 16 0 ++ [Value.int .i64 x_16, .string x_17])) (wrM 2), Blk.mk n_5 48 (arrI .u8 f 32 0 ++ ([Value.string x_5, .string x_6, .int .i64 x_7, .int .i64 x_8] ++ arrI .u8 f_1 16 0 ++ [Value.int .i64 x_9, .string x_10])) 0, Blk.mk n_3 32 [Value.int .u8 3, .int .u8 0, .int .u8 0, .int .u8 0, .int .u8 0, .int .u8 0, .int .u8 0, .int .u8 0, .int .u8 0, .int .u8 0, .int .u8 0, .int .u8 0,
 .int .u8 0, .int .u8 0, .int .u8 0, .int .u8 0, .int .u8 0, .int .u8 0, .int .u8 0, .int .u8 0, .int .u8 0, .int .u8 0, .int .u8 0, .int .u8 0, .int .u8 0, .int .u8 0, .int .u8 0, .int .u8 0, .int .u8 0, .int .u8 0, .int .u8 0, .int .u8 0] 0, Blk.mk n_2 32 [Value.int .u8 7, .int .u8 0, .int .u8 0, .int .u8 0, .int .u8 0, .int .u8 0, .int .u8 0, .int .u8 0, .int .u8 0, .int .u8 0, .int .u8 0, .int .u8 0, .int .u8 0, .int .u8 0, .int .u8 0, .int .u8 0, .int .u8 0, .int .u8 0, .int .u8 0, .int .u8 0, .int .u8 0, .int .u8 0, .int .u8 0, .int .u8 0, .int .u8 0, .int .u8 0, .int .u8 0, .int .u8 0, .int .u8 0, .int .u8 0, .int .u8 0, .int .u8 0] 0, Blk.mk n_1 45 [Value.int .u8 2, .int .u8 0, .int .u8 0, .int .u8 0, .int .u8 0, .int .u8 0, .int .u8 0, .int .u8 0, .int .u8 0, .int .u8 0, .int .u8 0, .int .u8 0, .int .u8 0, .int .u8 0, .int .u8 0, .int .u8 0] 0, Blk.mk n 45
 [Value.int .u8 1, .int .u8 0, .int .u8 0, .int .u8 0, .int .u8 0, .int .u8 0, .int .u8 0, .int .u8 0, .int .u8 0, .int .u8 0, .int .u8 0, .int .u8 0, .int .u8 0, .int .u8 0, .int .u8 0, .int .u8 0] 0] w' W -> CallsS Tryz.prog 39 #[.pointer x, .string (ByteArray.mk #[103]), .agg #[.int .u8 2, .int .u8 0, .int .u8 0, .int .u8 0, .int .u8 0, .int .u8 0, .int .u8 0, .int .u8 0, .int .u8 0, .int .u8 0, .int .u8 0, .int .u8 0, .int .u8 0, .int .u8 0, .int .u8 0, .int .u8 0], .int .i64 20] W fun (e : Ending) (w' : World) => ∃ (f_4 : Nat -> Int) (x_19 : ByteArray), ∃ (x_20 : ByteArray) (x_21 : Int), ∃ (x_22 : Int) (f_5 : Nat -> Int), ∃ (x_23 : Int) (x_24 : ByteArray) (x_25 : Int), e = .returned (.tuple #[.agg (arrI .u8 f_4 32 0 ++ ([Value.string x_19, .string x_20, .int .i64 x_21, .int .i64 x_22] ++ arrI .u8 f_5 16 0 ++ [Value.int .i64 x_23, .string x_24])).toArray,
 .int .i64 x_25]) /\ KeptL [n_6, n_5, n_3, n_2, n_1, n] W w' /\ ∀ (n_7 : Nat) (W : World), Loc w.heap.size [Blk.mk n_7 48 (arrI .u8 f_4 32 0 ++ ([Value.string x_19, .string x_20, .int .i64 x_21, .int .i64 x_22] ++ arrI .u8 f_5 16 0 ++ [Value.int .i64 x_23, .string x_24])) (wrM 2), Blk.mk n_6 48 (arrI .u8 f_2 32 0 ++ ([Value.string x_12, .string x_13, .int .i64 x_14, .int .i64 x_15] ++ arrI .u8 f_3 16 0 ++ [Value.int .i64 x_16, .string x_17])) 0, Blk.mk n_5 48 (arrI .u8 f 32 0 ++ ([Value.string x_5, .string x_6, .int .i64 x_7, .int .i64 x_8] ++ arrI .u8 f_1 16 0 ++ [Value.int .i64 x_9, .string x_10])) 0, Blk.mk n_3 32 [Value.int .u8 3, .int .u8 0, .int .u8 0, .int .u8 0, .int .u8 0, .int .u8 0, .int .u8 0, .int .u8 0, .int .u8 0, .int .u8 0, .int .u8 0, .int .u8 0, .int .u8 0, .int .u8 0, .int .u8 0, .int .u8 0, .int .u8 0, .int .u8 0, .int .u8 0, .int .u8 0, .int .u8 0, .int .u8 0,
 .int .u8 0, .int .u8 0, .int .u8 0, .int .u8 0, .int .u8 0, .int .u8 0, .int .u8 0, .int .u8 0, .int .u8 0, .int .u8 0] 0, Blk.mk n_2 32 [Value.int .u8 7, .int .u8 0, .int .u8 0, .int .u8 0, .int .u8 0, .int .u8 0, .int .u8 0, .int .u8 0, .int .u8 0, .int .u8 0, .int .u8 0, .int .u8 0, .int .u8 0, .int .u8 0, .int .u8 0, .int .u8 0, .int .u8 0, .int .u8 0, .int .u8 0, .int .u8 0, .int .u8 0, .int .u8 0, .int .u8 0, .int .u8 0, .int .u8 0, .int .u8 0, .int .u8 0, .int .u8 0, .int .u8 0, .int .u8 0, .int .u8 0, .int .u8 0] 0, Blk.mk n_1 45 [Value.int .u8 2, .int .u8 0, .int .u8 0, .int .u8 0, .int .u8 0, .int .u8 0, .int .u8 0, .int .u8 0, .int .u8 0, .int .u8 0, .int .u8 0, .int .u8 0, .int .u8 0, .int .u8 0, .int .u8 0, .int .u8 0] 0, Blk.mk n 45 [Value.int .u8 1, .int .u8 0, .int .u8 0, .int .u8 0, .int .u8 0, .int .u8 0, .int .u8 0, .int .u8 0, .int .u8 0, .int .u8 0,
 .int .u8 0, .int .u8 0, .int .u8 0, .int .u8 0, .int .u8 0, .int .u8 0] 0] w' W -> CallsS Tryz.prog 19 #[.pointer x, .agg #[.int .u8 3, .int .u8 0, .int .u8 0, .int .u8 0, .int .u8 0, .int .u8 0, .int .u8 0, .int .u8 0, .int .u8 0, .int .u8 0, .int .u8 0, .int .u8 0, .int .u8 0, .int .u8 0, .int .u8 0, .int .u8 0, .int .u8 0, .int .u8 0, .int .u8 0, .int .u8 0, .int .u8 0, .int .u8 0, .int .u8 0, .int .u8 0, .int .u8 0, .int .u8 0, .int .u8 0, .int .u8 0, .int .u8 0, .int .u8 0, .int .u8 0, .int .u8 0], .string (ByteArray.mk #[103]), .agg #[.int .u8 2, .int .u8 0, .int .u8 0, .int .u8 0, .int .u8 0, .int .u8 0, .int .u8 0, .int .u8 0, .int .u8 0, .int .u8 0, .int .u8 0, .int .u8 0, .int .u8 0, .int .u8 0, .int .u8 0, .int .u8 0], .int .i64 79] W fun (e : Ending) (w' : World) => ∃ (x_26 : Int) (f_6 : Nat -> Int), ∃ (x_27 : ByteArray) (x_28 : Int) (x_29 : Bool),
 ∃ (p : Option Addr) (n_8 : Nat), ∃ (c : Nat) (x_30 : ByteArray), ∃ (x_31 : Int) (x_32 : Int), ∃ (f_7 : Nat -> Int) (x_33 : Int), e = .returned (.tuple #[.agg ([Value.int .i64 x_26] ++ arrI .u8 f_6 32 0 ++ ([Value.string x_27, .int .i64 x_28, .bool x_29, .slice p n_8 c, .string x_30, .int .i64 x_31, .int .i64 x_32] ++ arrI .u8 f_7 16 0)).toArray, .int .i64 x_33]) /\ KeptL [n_7, n_6, n_5, n_3, n_2, n_1, n] W w' /\ ∀ (n_9 : Nat) (W : World), Loc w.heap.size [Blk.mk n_9 42 ([Value.int .i64 x_26] ++ arrI .u8 f_6 32 0 ++ ([Value.string x_27, .int .i64 x_28, .bool x_29, .slice p n_8 c, .string x_30, .int .i64 x_31, .int .i64 x_32] ++ arrI .u8 f_7 16 0)) (wrM 2), Blk.mk n_7 48 (arrI .u8 f_4 32 0 ++ ([Value.string x_19, .string x_20, .int .i64 x_21, .int .i64 x_22] ++ arrI .u8 f_5 16 0 ++ [Value.int .i64 x_23, .string x_24])) 0, Blk.mk n_6 48
 (arrI .u8 f_2 32 0 ++ ([Value.string x_12, .string x_13, .int .i64 x_14, .int .i64 x_15] ++ arrI .u8 f_3 16 0 ++ [Value.int .i64 x_16, .string x_17])) 0, Blk.mk n_5 48 (arrI .u8 f 32 0 ++ ([Value.string x_5, .string x_6, .int .i64 x_7, .int .i64 x_8] ++ arrI .u8 f_1 16 0 ++ [Value.int .i64 x_9, .string x_10])) 0, Blk.mk n_3 32 [Value.int .u8 3, .int .u8 0, .int .u8 0, .int .u8 0, .int .u8 0, .int .u8 0, .int .u8 0, .int .u8 0, .int .u8 0, .int .u8 0, .int .u8 0, .int .u8 0, .int .u8 0, .int .u8 0, .int .u8 0, .int .u8 0, .int .u8 0, .int .u8 0, .int .u8 0, .int .u8 0, .int .u8 0, .int .u8 0, .int .u8 0, .int .u8 0, .int .u8 0, .int .u8 0, .int .u8 0, .int .u8 0, .int .u8 0, .int .u8 0, .int .u8 0, .int .u8 0] 0, Blk.mk n_2 32 [Value.int .u8 7, .int .u8 0, .int .u8 0, .int .u8 0, .int .u8 0, .int .u8 0, .int .u8 0, .int .u8 0, .int .u8 0, .int .u8 0, .int .u8 0, .int .u8 0, .int .u8 0,
 .int .u8 0, .int .u8 0, .int .u8 0, .int .u8 0, .int .u8 0, .int .u8 0, .int .u8 0, .int .u8 0, .int .u8 0, .int .u8 0, .int .u8 0, .int .u8 0, .int .u8 0, .int .u8 0, .int .u8 0, .int .u8 0, .int .u8 0, .int .u8 0, .int .u8 0] 0, Blk.mk n_1 45 [Value.int .u8 2, .int .u8 0, .int .u8 0, .int .u8 0, .int .u8 0, .int .u8 0, .int .u8 0, .int .u8 0, .int .u8 0, .int .u8 0, .int .u8 0, .int .u8 0, .int .u8 0, .int .u8 0, .int .u8 0, .int .u8 0] 0, Blk.mk n 45 [Value.int .u8 1, .int .u8 0, .int .u8 0, .int .u8 0, .int .u8 0, .int .u8 0, .int .u8 0, .int .u8 0, .int .u8 0, .int .u8 0, .int .u8 0, .int .u8 0, .int .u8 0, .int .u8 0, .int .u8 0, .int .u8 0] 0] w' W -> CallsS Tryz.prog 19 #[.pointer x, .agg #[.int .u8 3, .int .u8 0, .int .u8 0, .int .u8 0, .int .u8 0, .int .u8 0, .int .u8 0, .int .u8 0, .int .u8 0, .int .u8 0, .int .u8 0, .int .u8 0, .int .u8 0, .int .u8 0, .int .u8 0,
 .int .u8 0, .int .u8 0, .int .u8 0, .int .u8 0, .int .u8 0, .int .u8 0, .int .u8 0, .int .u8 0, .int .u8 0, .int .u8 0, .int .u8 0, .int .u8 0, .int .u8 0, .int .u8 0, .int .u8 0, .int .u8 0, .int .u8 0], .string (ByteArray.mk #[103]), .agg #[.int .u8 2, .int .u8 0, .int .u8 0, .int .u8 0, .int .u8 0, .int .u8 0, .int .u8 0, .int .u8 0, .int .u8 0, .int .u8 0, .int .u8 0, .int .u8 0, .int .u8 0, .int .u8 0, .int .u8 0, .int .u8 0], .int .i64 80] W fun (e : Ending) (w' : World) => ∃ (x_34 : Int) (f_8 : Nat -> Int), ∃ (x_35 : ByteArray) (x_36 : Int), ∃ (x_37 : Bool) (p_1 : Option Addr), ∃ (n_10 : Nat) (c_1 : Nat), ∃ (x_38 : ByteArray) (x_39 : Int), ∃ (x_40 : Int) (f_9 : Nat -> Int) (x_41 : Int), e = .returned (.tuple #[.agg ([Value.int .i64 x_34] ++ arrI .u8 f_8 32 0 ++ ([Value.string x_35, .int .i64 x_36, .bool x_37, .slice p_1 n_10 c_1, .string x_38, .int
 .i64 x_39, .int .i64 x_40] ++ arrI .u8 f_9 16 0)).toArray, .int .i64 x_41]) /\ KeptL [n_9, n_7, n_6, n_5, n_3, n_2, n_1, n] W w' /\ ∀ (n_11 : Nat), ∃ (f_10 : Nat -> Int), gimp (x_2 == 0 && x_3 == 0 && x_4 == 0 && x_11 == 0) (∀ (W : World), Loc w.heap.size [Blk.mk n_11 42 ([Value.int .i64 x_34] ++ arrI .u8 f_8 32 0 ++ ([Value.string x_35, .int .i64 x_36, .bool x_37, .slice p_1 n_10 c_1, .string x_38, .int .i64 x_39, .int .i64 x_40] ++ arrI .u8 f_9 16 0)) (wrM 2), Blk.mk n_9 42 ([Value.int .i64 x_26] ++ arrI .u8 f_6 32 0 ++ ([Value.string x_27, .int .i64 x_28, .bool x_29, .slice p n_8 c, .string x_30, .int .i64 x_31, .int .i64 x_32] ++ arrI .u8 f_7 16 0)) 0, Blk.mk n_7 48 (arrI .u8 f_4 32 0 ++ ([Value.string x_19, .string x_20, .int .i64 x_21, .int .i64 x_22] ++ arrI .u8 f_5 16 0 ++ [Value.int .i64 x_23, .string x_24])) 0, Blk.mk n_6 48 (arrI .u8 f_2 32 0 ++ ([Value.string x_12, .string
 x_13, .int .i64 x_14, .int .i64 x_15] ++ arrI .u8 f_3 16 0 ++ [Value.int .i64 x_16, .string x_17])) 0, Blk.mk n_5 48 (arrI .u8 f 32 0 ++ ([Value.string x_5, .string x_6, .int .i64 x_7, .int .i64 x_8] ++ arrI .u8 f_1 16 0 ++ [Value.int .i64 x_9, .string x_10])) 0, Blk.mk n_3 32 [Value.int .u8 3, .int .u8 0, .int .u8 0, .int .u8 0, .int .u8 0, .int .u8 0, .int .u8 0, .int .u8 0, .int .u8 0, .int .u8 0, .int .u8 0, .int .u8 0, .int .u8 0, .int .u8 0, .int .u8 0, .int .u8 0, .int .u8 0, .int .u8 0, .int .u8 0, .int .u8 0, .int .u8 0, .int .u8 0, .int .u8 0, .int .u8 0, .int .u8 0, .int .u8 0, .int .u8 0, .int .u8 0, .int .u8 0, .int .u8 0, .int .u8 0, .int .u8 0] 0, Blk.mk n_2 32 [Value.int .u8 7, .int .u8 0, .int .u8 0, .int .u8 0, .int .u8 0, .int .u8 0, .int .u8 0, .int .u8 0, .int .u8 0, .int .u8 0, .int .u8 0, .int .u8 0, .int .u8 0, .int .u8 0, .int .u8 0, .int .u8 0, .int .u8 0,
 .int .u8 0, .int .u8 0, .int .u8 0, .int .u8 0, .int .u8 0, .int .u8 0, .int .u8 0, .int .u8 0, .int .u8 0, .int .u8 0, .int .u8 0, .int .u8 0, .int .u8 0, .int .u8 0, .int .u8 0] 0, Blk.mk n_1 45 [Value.int .u8 2, .int .u8 0, .int .u8 0, .int .u8 0, .int .u8 0, .int .u8 0, .int .u8 0, .int .u8 0, .int .u8 0, .int .u8 0, .int .u8 0, .int .u8 0, .int .u8 0, .int .u8 0, .int .u8 0, .int .u8 0] 0, Blk.mk n 45 [Value.int .u8 1, .int .u8 0, .int .u8 0, .int .u8 0, .int .u8 0, .int .u8 0, .int .u8 0, .int .u8 0, .int .u8 0, .int .u8 0, .int .u8 0, .int .u8 0, .int .u8 0, .int .u8 0, .int .u8 0, .int .u8 0] 0] w' W -> AtL W n_5 0 (arrI .u8 f_10 32 0)) /\ ∃ (r : Bool), gimp (x_2 == 0 && x_3 == 0 && x_4 == 0 && x_11 == 0) (EqP Tryz.prog 32 (.agg (arrI .u8 f_10 32 0).toArray) (.agg #[.int .u8 3, .int .u8 0, .int .u8 0, .int .u8 0, .int .u8 0, .int .u8 0, .int .u8 0, .int .u8 0, .int .u8 0, .int
 .u8 0, .int .u8 0, .int .u8 0, .int .u8 0, .int .u8 0, .int .u8 0, .int .u8 0, .int .u8 0, .int .u8 0, .int .u8 0, .int .u8 0, .int .u8 0, .int .u8 0, .int .u8 0, .int .u8 0, .int .u8 0, .int .u8 0, .int .u8 0, .int .u8 0, .int .u8 0, .int .u8 0, .int .u8 0, .int .u8 0]) r) /\ ∃ (x_42 : ByteArray), gimp (x_2 == 0 && x_3 == 0 && x_4 == 0 && x_11 == 0 && r) (∀ (W : World), Loc w.heap.size [Blk.mk n_11 42 ([Value.int .i64 x_34] ++ arrI .u8 f_8 32 0 ++ ([Value.string x_35, .int .i64 x_36, .bool x_37, .slice p_1 n_10 c_1, .string x_38, .int .i64 x_39, .int .i64 x_40] ++ arrI .u8 f_9 16 0)) (wrM 2), Blk.mk n_9 42 ([Value.int .i64 x_26] ++ arrI .u8 f_6 32 0 ++ ([Value.string x_27, .int .i64 x_28, .bool x_29, .slice p n_8 c, .string x_30, .int .i64 x_31, .int .i64 x_32] ++ arrI .u8 f_7 16 0)) 0, Blk.mk n_7 48 (arrI .u8 f_4 32 0 ++ ([Value.string x_19, .string x_20, .int .i64 x_21, .int .i64
 x_22] ++ arrI .u8 f_5 16 0 ++ [Value.int .i64 x_23, .string x_24])) 0, Blk.mk n_6 48 (arrI .u8 f_2 32 0 ++ ([Value.string x_12, .string x_13, .int .i64 x_14, .int .i64 x_15] ++ arrI .u8 f_3 16 0 ++ [Value.int .i64 x_16, .string x_17])) 0, Blk.mk n_5 48 (arrI .u8 f 32 0 ++ ([Value.string x_5, .string x_6, .int .i64 x_7, .int .i64 x_8] ++ arrI .u8 f_1 16 0 ++ [Value.int .i64 x_9, .string x_10])) 0, Blk.mk n_3 32 [Value.int .u8 3, .int .u8 0, .int .u8 0, .int .u8 0, .int .u8 0, .int .u8 0, .int .u8 0, .int .u8 0, .int .u8 0, .int .u8 0, .int .u8 0, .int .u8 0, .int .u8 0, .int .u8 0, .int .u8 0, .int .u8 0, .int .u8 0, .int .u8 0, .int .u8 0, .int .u8 0, .int .u8 0, .int .u8 0, .int .u8 0, .int .u8 0, .int .u8 0, .int .u8 0, .int .u8 0, .int .u8 0, .int .u8 0, .int .u8 0, .int .u8 0, .int .u8 0] 0, Blk.mk n_2 32 [Value.int .u8 7, .int .u8 0, .int .u8 0, .int .u8 0, .int .u8 0, .int .u8 0,
 .int .u8 0, .int .u8 0, .int .u8 0, .int .u8 0, .int .u8 0, .int .u8 0, .int .u8 0, .int .u8 0, .int .u8 0, .int .u8 0, .int .u8 0, .int .u8 0, .int .u8 0, .int .u8 0, .int .u8 0, .int .u8 0, .int .u8 0, .int .u8 0, .int .u8 0, .int .u8 0, .int .u8 0, .int .u8 0, .int .u8 0, .int .u8 0, .int .u8 0, .int .u8 0] 0, Blk.mk n_1 45 [Value.int .u8 2, .int .u8 0, .int .u8 0, .int .u8 0, .int .u8 0, .int .u8 0, .int .u8 0, .int .u8 0, .int .u8 0, .int .u8 0, .int .u8 0, .int .u8 0, .int .u8 0, .int .u8 0, .int .u8 0, .int .u8 0] 0, Blk.mk n 45 [Value.int .u8 1, .int .u8 0, .int .u8 0, .int .u8 0, .int .u8 0, .int .u8 0, .int .u8 0, .int .u8 0, .int .u8 0, .int .u8 0, .int .u8 0, .int .u8 0, .int .u8 0, .int .u8 0, .int .u8 0, .int .u8 0] 0] w' W -> W.cell? (Addr.mk n_5 (0 + 33) none) = some (.string x_42)) /\ ∃ (f_11 : Nat -> Int), gimp (x_2 == 0 && x_3 == 0 && x_4 == 0 && x_11 == 0 && r &&
 x_42.toList == [(ByteArray.mk #[116, 101, 120, 116, 32, 111, 102, 32, 121]).get! 0, (ByteArray.mk #[116, 101, 120, 116, 32, 111, 102, 32, 121]).get! 1, (ByteArray.mk #[116, 101, 120, 116, 32, 111, 102, 32, 121]).get! 2, (ByteArray.mk #[116, 101, 120, 116, 32, 111, 102, 32, 121]).get! 3, (ByteArray.mk #[116, 101, 120, 116, 32, 111, 102, 32, 121]).get! 4, (ByteArray.mk #[116, 101, 120, 116, 32, 111, 102, 32, 121]).get! 5, (ByteArray.mk #[116, 101, 120, 116, 32, 111, 102, 32, 121]).get! 6, (ByteArray.mk #[116, 101, 120, 116, 32, 111, 102, 32, 121]).get! 7, (ByteArray.mk #[116, 101, 120, 116, 32, 111, 102, 32, 121]).get! 8]) (∀ (W : World), Loc w.heap.size [Blk.mk n_11 42 ([Value.int .i64 x_34] ++ arrI .u8 f_8 32 0 ++ ([Value.string x_35, .int .i64 x_36, .bool x_37, .slice p_1 n_10 c_1, .string x_38, .int .i64 x_39, .int .i64 x_40] ++ arrI .u8 f_9 16 0)) (wrM 2), Blk.mk n_9 42 ([Value.int
 .i64 x_26] ++ arrI .u8 f_6 32 0 ++ ([Value.string x_27, .int .i64 x_28, .bool x_29, .slice p n_8 c, .string x_30, .int .i64 x_31, .int .i64 x_32] ++ arrI .u8 f_7 16 0)) 0, Blk.mk n_7 48 (arrI .u8 f_4 32 0 ++ ([Value.string x_19, .string x_20, .int .i64 x_21, .int .i64 x_22] ++ arrI .u8 f_5 16 0 ++ [Value.int .i64 x_23, .string x_24])) 0, Blk.mk n_6 48 (arrI .u8 f_2 32 0 ++ ([Value.string x_12, .string x_13, .int .i64 x_14, .int .i64 x_15] ++ arrI .u8 f_3 16 0 ++ [Value.int .i64 x_16, .string x_17])) 0, Blk.mk n_5 48 (arrI .u8 f 32 0 ++ ([Value.string x_5, .string x_6, .int .i64 x_7, .int .i64 x_8] ++ arrI .u8 f_1 16 0 ++ [Value.int .i64 x_9, .string x_10])) 0, Blk.mk n_3 32 [Value.int .u8 3, .int .u8 0, .int .u8 0, .int .u8 0, .int .u8 0, .int .u8 0, .int .u8 0, .int .u8 0, .int .u8 0, .int .u8 0, .int .u8 0, .int .u8 0, .int .u8 0, .int .u8 0, .int .u8 0, .int .u8 0, .int .u8 0, .int
 .u8 0, .int .u8 0, .int .u8 0, .int .u8 0, .int .u8 0, .int .u8 0, .int .u8 0, .int .u8 0, .int .u8 0, .int .u8 0, .int .u8 0, .int .u8 0, .int .u8 0, .int .u8 0, .int .u8 0] 0, Blk.mk n_2 32 [Value.int .u8 7, .int .u8 0, .int .u8 0, .int .u8 0, .int .u8 0, .int .u8 0, .int .u8 0, .int .u8 0, .int .u8 0, .int .u8 0, .int .u8 0, .int .u8 0, .int .u8 0, .int .u8 0, .int .u8 0, .int .u8 0, .int .u8 0, .int .u8 0, .int .u8 0, .int .u8 0, .int .u8 0, .int .u8 0, .int .u8 0, .int .u8 0, .int .u8 0, .int .u8 0, .int .u8 0, .int .u8 0, .int .u8 0, .int .u8 0, .int .u8 0, .int .u8 0] 0, Blk.mk n_1 45 [Value.int .u8 2, .int .u8 0, .int .u8 0, .int .u8 0, .int .u8 0, .int .u8 0, .int .u8 0, .int .u8 0, .int .u8 0, .int .u8 0, .int .u8 0, .int .u8 0, .int .u8 0, .int .u8 0, .int .u8 0, .int .u8 0] 0, Blk.mk n 45 [Value.int .u8 1, .int .u8 0, .int .u8 0, .int .u8 0, .int .u8 0, .int .u8 0, .int .u8
 0, .int .u8 0, .int .u8 0, .int .u8 0, .int .u8 0, .int .u8 0, .int .u8 0, .int .u8 0, .int .u8 0, .int .u8 0] 0] w' W -> AtL W n_6 0 (arrI .u8 f_11 32 0)) /\ ∃ (r_1 : Bool), gimp (x_2 == 0 && x_3 == 0 && x_4 == 0 && x_11 == 0 && r && x_42.toList == [(ByteArray.mk #[116, 101, 120, 116, 32, 111, 102, 32, 121]).get! 0, (ByteArray.mk #[116, 101, 120, 116, 32, 111, 102, 32, 121]).get! 1, (ByteArray.mk #[116, 101, 120, 116, 32, 111, 102, 32, 121]).get! 2, (ByteArray.mk #[116, 101, 120, 116, 32, 111, 102, 32, 121]).get! 3, (ByteArray.mk #[116, 101, 120, 116, 32, 111, 102, 32, 121]).get! 4, (ByteArray.mk #[116, 101, 120, 116, 32, 111, 102, 32, 121]).get! 5, (ByteArray.mk #[116, 101, 120, 116, 32, 111, 102, 32, 121]).get! 6, (ByteArray.mk #[116, 101, 120, 116, 32, 111, 102, 32, 121]).get! 7, (ByteArray.mk #[116, 101, 120, 116, 32, 111, 102, 32, 121]).get! 8]) (EqP Tryz.prog 32 (.agg
 (arrI .u8 f_11 32 0).toArray) (.agg #[.int .u8 3, .int .u8 0, .int .u8 0, .int .u8 0, .int .u8 0, .int .u8 0, .int .u8 0, .int .u8 0, .int .u8 0, .int .u8 0, .int .u8 0, .int .u8 0, .int .u8 0, .int .u8 0, .int .u8 0, .int .u8 0, .int .u8 0, .int .u8 0, .int .u8 0, .int .u8 0, .int .u8 0, .int .u8 0, .int .u8 0, .int .u8 0, .int .u8 0, .int .u8 0, .int .u8 0, .int .u8 0, .int .u8 0, .int .u8 0, .int .u8 0, .int .u8 0]) r_1) /\ ∃ (f_12 : Nat -> Int), gimp (x_2 == 0 && x_3 == 0 && x_4 == 0 && x_11 == 0 && r && x_42.toList == [(ByteArray.mk #[116, 101, 120, 116, 32, 111, 102, 32, 121]).get! 0, (ByteArray.mk #[116, 101, 120, 116, 32, 111, 102, 32, 121]).get! 1, (ByteArray.mk #[116, 101, 120, 116, 32, 111, 102, 32, 121]).get! 2, (ByteArray.mk #[116, 101, 120, 116, 32, 111, 102, 32, 121]).get! 3, (ByteArray.mk #[116, 101, 120, 116, 32, 111, 102, 32, 121]).get! 4, (ByteArray.mk #[116, 101,
 120, 116, 32, 111, 102, 32, 121]).get! 5, (ByteArray.mk #[116, 101, 120, 116, 32, 111, 102, 32, 121]).get! 6, (ByteArray.mk #[116, 101, 120, 116, 32, 111, 102, 32, 121]).get! 7, (ByteArray.mk #[116, 101, 120, 116, 32, 111, 102, 32, 121]).get! 8] && r_1) (∀ (W : World), Loc w.heap.size [Blk.mk n_11 42 ([Value.int .i64 x_34] ++ arrI .u8 f_8 32 0 ++ ([Value.string x_35, .int .i64 x_36, .bool x_37, .slice p_1 n_10 c_1, .string x_38, .int .i64 x_39, .int .i64 x_40] ++ arrI .u8 f_9 16 0)) (wrM 2), Blk.mk n_9 42 ([Value.int .i64 x_26] ++ arrI .u8 f_6 32 0 ++ ([Value.string x_27, .int .i64 x_28, .bool x_29, .slice p n_8 c, .string x_30, .int .i64 x_31, .int .i64 x_32] ++ arrI .u8 f_7 16 0)) 0, Blk.mk n_7 48 (arrI .u8 f_4 32 0 ++ ([Value.string x_19, .string x_20, .int .i64 x_21, .int .i64 x_22] ++ arrI .u8 f_5 16 0 ++ [Value.int .i64 x_23, .string x_24])) 0, Blk.mk n_6 48
 (arrI .u8 f_2 32 0 ++ ([Value.string x_12, .string x_13, .int .i64 x_14, .int .i64 x_15] ++ arrI .u8 f_3 16 0 ++ [Value.int .i64 x_16, .string x_17])) 0, Blk.mk n_5 48 (arrI .u8 f 32 0 ++ ([Value.string x_5, .string x_6, .int .i64 x_7, .int .i64 x_8] ++ arrI .u8 f_1 16 0 ++ [Value.int .i64 x_9, .string x_10])) 0, Blk.mk n_3 32 [Value.int .u8 3, .int .u8 0, .int .u8 0, .int .u8 0, .int .u8 0, .int .u8 0, .int .u8 0, .int .u8 0, .int .u8 0, .int .u8 0, .int .u8 0, .int .u8 0, .int .u8 0, .int .u8 0, .int .u8 0, .int .u8 0, .int .u8 0, .int .u8 0, .int .u8 0, .int .u8 0, .int .u8 0, .int .u8 0, .int .u8 0, .int .u8 0, .int .u8 0, .int .u8 0, .int .u8 0, .int .u8 0, .int .u8 0, .int .u8 0, .int .u8 0, .int .u8 0] 0, Blk.mk n_2 32 [Value.int .u8 7, .int .u8 0, .int .u8 0, .int .u8 0, .int .u8 0, .int .u8 0, .int .u8 0, .int .u8 0, .int .u8 0, .int .u8 0, .int .u8 0, .int .u8 0, .int .u8 0,
 .int .u8 0, .int .u8 0, .int .u8 0, .int .u8 0, .int .u8 0, .int .u8 0, .int .u8 0, .int .u8 0, .int .u8 0, .int .u8 0, .int .u8 0, .int .u8 0, .int .u8 0, .int .u8 0, .int .u8 0, .int .u8 0, .int .u8 0, .int .u8 0, .int .u8 0] 0, Blk.mk n_1 45 [Value.int .u8 2, .int .u8 0, .int .u8 0, .int .u8 0, .int .u8 0, .int .u8 0, .int .u8 0, .int .u8 0, .int .u8 0, .int .u8 0, .int .u8 0, .int .u8 0, .int .u8 0, .int .u8 0, .int .u8 0, .int .u8 0] 0, Blk.mk n 45 [Value.int .u8 1, .int .u8 0, .int .u8 0, .int .u8 0, .int .u8 0, .int .u8 0, .int .u8 0, .int .u8 0, .int .u8 0, .int .u8 0, .int .u8 0, .int .u8 0, .int .u8 0, .int .u8 0, .int .u8 0, .int .u8 0] 0] w' W -> AtL W n_7 0 (arrI .u8 f_12 32 0)) /\ ∃ (r_2 : Bool), gimp (x_2 == 0 && x_3 == 0 && x_4 == 0 && x_11 == 0 && r && x_42.toList == [(ByteArray.mk #[116, 101, 120, 116, 32, 111, 102, 32, 121]).get! 0, (ByteArray.mk #[116, 101, 120,
 116, 32, 111, 102, 32, 121]).get! 1, (ByteArray.mk #[116, 101, 120, 116, 32, 111, 102, 32, 121]).get! 2, (ByteArray.mk #[116, 101, 120, 116, 32, 111, 102, 32, 121]).get! 3, (ByteArray.mk #[116, 101, 120, 116, 32, 111, 102, 32, 121]).get! 4, (ByteArray.mk #[116, 101, 120, 116, 32, 111, 102, 32, 121]).get! 5, (ByteArray.mk #[116, 101, 120, 116, 32, 111, 102, 32, 121]).get! 6, (ByteArray.mk #[116, 101, 120, 116, 32, 111, 102, 32, 121]).get! 7, (ByteArray.mk #[116, 101, 120, 116, 32, 111, 102, 32, 121]).get! 8] && r_1) (EqP Tryz.prog 32 (.agg (arrI .u8 f_12 32 0).toArray) (.agg #[.int .u8 7, .int .u8 0, .int .u8 0, .int .u8 0, .int .u8 0, .int .u8 0, .int .u8 0, .int .u8 0, .int .u8 0, .int .u8 0, .int .u8 0, .int .u8 0, .int .u8 0, .int .u8 0, .int .u8 0, .int .u8 0, .int .u8 0, .int .u8 0, .int .u8 0, .int .u8 0, .int .u8 0, .int .u8 0, .int .u8 0, .int .u8 0, .int .u8 0, .int .u8 0,
 .int .u8 0, .int .u8 0, .int .u8 0, .int .u8 0, .int .u8 0, .int .u8 0]) r_2) /\ ∃ (x_43 : Int), gimp (x_2 == 0 && x_3 == 0 && x_4 == 0 && x_11 == 0 && r && x_42.toList == [(ByteArray.mk #[116, 101, 120, 116, 32, 111, 102, 32, 121]).get! 0, (ByteArray.mk #[116, 101, 120, 116, 32, 111, 102, 32, 121]).get! 1, (ByteArray.mk #[116, 101, 120, 116, 32, 111, 102, 32, 121]).get! 2, (ByteArray.mk #[116, 101, 120, 116, 32, 111, 102, 32, 121]).get! 3, (ByteArray.mk #[116, 101, 120, 116, 32, 111, 102, 32, 121]).get! 4, (ByteArray.mk #[116, 101, 120, 116, 32, 111, 102, 32, 121]).get! 5, (ByteArray.mk #[116, 101, 120, 116, 32, 111, 102, 32, 121]).get! 6, (ByteArray.mk #[116, 101, 120, 116, 32, 111, 102, 32, 121]).get! 7, (ByteArray.mk #[116, 101, 120, 116, 32, 111, 102, 32, 121]).get! 8] && r_1 && r_2 && x_33 == 25 && x_41 == 0) (∀ (W : World), Loc w.heap.size [Blk.mk n_11 42 ([Value.int .i64
 x_34] ++ arrI .u8 f_8 32 0 ++ ([Value.string x_35, .int .i64 x_36, .bool x_37, .slice p_1 n_10 c_1, .string x_38, .int .i64 x_39, .int .i64 x_40] ++ arrI .u8 f_9 16 0)) (wrM 2), Blk.mk n_9 42 ([Value.int .i64 x_26] ++ arrI .u8 f_6 32 0 ++ ([Value.string x_27, .int .i64 x_28, .bool x_29, .slice p n_8 c, .string x_30, .int .i64 x_31, .int .i64 x_32] ++ arrI .u8 f_7 16 0)) 0, Blk.mk n_7 48 (arrI .u8 f_4 32 0 ++ ([Value.string x_19, .string x_20, .int .i64 x_21, .int .i64 x_22] ++ arrI .u8 f_5 16 0 ++ [Value.int .i64 x_23, .string x_24])) 0, Blk.mk n_6 48 (arrI .u8 f_2 32 0 ++ ([Value.string x_12, .string x_13, .int .i64 x_14, .int .i64 x_15] ++ arrI .u8 f_3 16 0 ++ [Value.int .i64 x_16, .string x_17])) 0, Blk.mk n_5 48 (arrI .u8 f 32 0 ++ ([Value.string x_5, .string x_6, .int .i64 x_7, .int .i64 x_8] ++ arrI .u8 f_1 16 0 ++ [Value.int .i64 x_9, .string x_10])) 0, Blk.mk n_3 32 [Value.int
 .u8 3, .int .u8 0, .int .u8 0, .int .u8 0, .int .u8 0, .int .u8 0, .int .u8 0, .int .u8 0, .int .u8 0, .int .u8 0, .int .u8 0, .int .u8 0, .int .u8 0, .int .u8 0, .int .u8 0, .int .u8 0, .int .u8 0, .int .u8 0, .int .u8 0, .int .u8 0, .int .u8 0, .int .u8 0, .int .u8 0, .int .u8 0, .int .u8 0, .int .u8 0, .int .u8 0, .int .u8 0, .int .u8 0, .int .u8 0, .int .u8 0, .int .u8 0] 0, Blk.mk n_2 32 [Value.int .u8 7, .int .u8 0, .int .u8 0, .int .u8 0, .int .u8 0, .int .u8 0, .int .u8 0, .int .u8 0, .int .u8 0, .int .u8 0, .int .u8 0, .int .u8 0, .int .u8 0, .int .u8 0, .int .u8 0, .int .u8 0, .int .u8 0, .int .u8 0, .int .u8 0, .int .u8 0, .int .u8 0, .int .u8 0, .int .u8 0, .int .u8 0, .int .u8 0, .int .u8 0, .int .u8 0, .int .u8 0, .int .u8 0, .int .u8 0, .int .u8 0, .int .u8 0] 0, Blk.mk n_1 45 [Value.int .u8 2, .int .u8 0, .int .u8 0, .int .u8 0, .int .u8 0, .int .u8 0, .int .u8 0, .int
 .u8 0, .int .u8 0, .int .u8 0, .int .u8 0, .int .u8 0, .int .u8 0, .int .u8 0, .int .u8 0, .int .u8 0] 0, Blk.mk n 45 [Value.int .u8 1, .int .u8 0, .int .u8 0, .int .u8 0, .int .u8 0, .int .u8 0, .int .u8 0, .int .u8 0, .int .u8 0, .int .u8 0, .int .u8 0, .int .u8 0, .int .u8 0, .int .u8 0, .int .u8 0, .int .u8 0] 0] w' W -> W.cell? (Addr.mk n_11 0 none) = some (.int .i64 x_43)) /\ ∃ (f_13 : Nat -> Int), gimp (x_2 == 0 && x_3 == 0 && x_4 == 0 && x_11 == 0 && r && x_42.toList == [(ByteArray.mk #[116, 101, 120, 116, 32, 111, 102, 32, 121]).get! 0, (ByteArray.mk #[116, 101, 120, 116, 32, 111, 102, 32, 121]).get! (0 + 1), (ByteArray.mk #[116, 101, 120, 116, 32, 111, 102, 32, 121]).get! 2, (ByteArray.mk #[116, 101, 120, 116, 32, 111, 102, 32, 121]).get! 3, (ByteArray.mk #[116, 101, 120, 116, 32, 111, 102, 32, 121]).get! 4, (ByteArray.mk #[116, 101, 120, 116, 32, 111, 102, 32, 121]).get! 5,
 (ByteArray.mk #[116, 101, 120, 116, 32, 111, 102, 32, 121]).get! 6, (ByteArray.mk #[116, 101, 120, 116, 32, 111, 102, 32, 121]).get! 7, (ByteArray.mk #[116, 101, 120, 116, 32, 111, 102, 32, 121]).get! 8] && r_1 && r_2 && x_33 == 25 && x_41 == 0 && x_43 == 2) (∀ (W : World), Loc w.heap.size [Blk.mk n_11 42 ([Value.int .i64 x_34] ++ arrI .u8 f_8 32 0 ++ ([Value.string x_35, .int .i64 x_36, .bool x_37, .slice p_1 n_10 c_1, .string x_38, .int .i64 x_39, .int .i64 x_40] ++ arrI .u8 f_9 16 0)) (wrM 2), Blk.mk n_9 42 ([Value.int .i64 x_26] ++ arrI .u8 f_6 32 0 ++ ([Value.string x_27, .int .i64 x_28, .bool x_29, .slice p n_8 c, .string x_30, .int .i64 x_31, .int .i64 x_32] ++ arrI .u8 f_7 16 0)) 0, Blk.mk n_7 48 (arrI .u8 f_4 32 0 ++ ([Value.string x_19, .string x_20, .int .i64 x_21, .int .i64 x_22] ++ arrI .u8 f_5 16 0 ++ [Value.int .i64 x_23, .string x_24])) 0, Blk.mk n_6 48
 (arrI .u8 f_2 32 0 ++ ([Value.string x_12, .string x_13, .int .i64 x_14, .int .i64 x_15] ++ arrI .u8 f_3 16 0 ++ [Value.int .i64 x_16, .string x_17])) 0, Blk.mk n_5 48 (arrI .u8 f 32 0 ++ ([Value.string x_5, .string x_6, .int .i64 x_7, .int .i64 x_8] ++ arrI .u8 f_1 16 0 ++ [Value.int .i64 x_9, .string x_10])) 0, Blk.mk n_3 32 [Value.int .u8 3, .int .u8 0, .int .u8 0, .int .u8 0, .int .u8 0, .int .u8 0, .int .u8 0, .int .u8 0, .int .u8 0, .int .u8 0, .int .u8 0, .int .u8 0, .int .u8 0, .int .u8 0, .int .u8 0, .int .u8 0, .int .u8 0, .int .u8 0, .int .u8 0, .int .u8 0, .int .u8 0, .int .u8 0, .int .u8 0, .int .u8 0, .int .u8 0, .int .u8 0, .int .u8 0, .int .u8 0, .int .u8 0, .int .u8 0, .int .u8 0, .int .u8 0] 0, Blk.mk n_2 32 [Value.int .u8 7, .int .u8 0, .int .u8 0, .int .u8 0, .int .u8 0, .int .u8 0, .int .u8 0, .int .u8 0, .int .u8 0, .int .u8 0, .int .u8 0, .int .u8 0, .int .u8 0,
 .int .u8 0, .int .u8 0, .int .u8 0, .int .u8 0, .int .u8 0, .int .u8 0, .int .u8 0, .int .u8 0, .int .u8 0, .int .u8 0, .int .u8 0, .int .u8 0, .int .u8 0, .int .u8 0, .int .u8 0, .int .u8 0, .int .u8 0, .int .u8 0, .int .u8 0] 0, Blk.mk n_1 45 [Value.int .u8 2, .int .u8 0, .int .u8 0, .int .u8 0, .int .u8 0, .int .u8 0, .int .u8 0, .int .u8 0, .int .u8 0, .int .u8 0, .int .u8 0, .int .u8 0, .int .u8 0, .int .u8 0, .int .u8 0, .int .u8 0] 0, Blk.mk n 45 [Value.int .u8 1, .int .u8 0, .int .u8 0, .int .u8 0, .int .u8 0, .int .u8 0, .int .u8 0, .int .u8 0, .int .u8 0, .int .u8 0, .int .u8 0, .int .u8 0, .int .u8 0, .int .u8 0, .int .u8 0, .int .u8 0] 0] w' W -> AtL W n_11 (0 + 1) (arrI .u8 f_13 32 0)) /\ ∃ (r_3 : Bool), gimp (x_2 == 0 && x_3 == 0 && x_4 == 0 && x_11 == 0 && r && x_42.toList == [(ByteArray.mk #[116, 101, 120, 116, 32, 111, 102, 32, 121]).get! 0, (ByteArray.mk #[116, 101,
 120, 116, 32, 111, 102, 32, 121]).get! (0 + 1), (ByteArray.mk #[116, 101, 120, 116, 32, 111, 102, 32, 121]).get! 2, (ByteArray.mk #[116, 101, 120, 116, 32, 111, 102, 32, 121]).get! 3, (ByteArray.mk #[116, 101, 120, 116, 32, 111, 102, 32, 121]).get! 4, (ByteArray.mk #[116, 101, 120, 116, 32, 111, 102, 32, 121]).get! 5, (ByteArray.mk #[116, 101, 120, 116, 32, 111, 102, 32, 121]).get! 6, (ByteArray.mk #[116, 101, 120, 116, 32, 111, 102, 32, 121]).get! 7, (ByteArray.mk #[116, 101, 120, 116, 32, 111, 102, 32, 121]).get! 8] && r_1 && r_2 && x_33 == 25 && x_41 == 0 && x_43 == 2) (EqP Tryz.prog 32 (.agg (arrI .u8 f_13 32 0).toArray) (.agg #[.int .u8 3, .int .u8 0, .int .u8 0, .int .u8 0, .int .u8 0, .int .u8 0, .int .u8 0, .int .u8 0, .int .u8 0, .int .u8 0, .int .u8 0, .int .u8 0, .int .u8 0, .int .u8 0, .int .u8 0, .int .u8 0, .int .u8 0, .int .u8 0, .int .u8 0, .int .u8 0, .int .u8 0, .int
 .u8 0, .int .u8 0, .int .u8 0, .int .u8 0, .int .u8 0, .int .u8 0, .int .u8 0, .int .u8 0, .int .u8 0, .int .u8 0, .int .u8 0]) r_3) /\ ∃ (x_44 : ByteArray), gimp (x_2 == 0 && x_3 == 0 && x_4 == 0 && x_11 == 0 && r && x_42.toList == [(ByteArray.mk #[116, 101, 120, 116, 32, 111, 102, 32, 121]).get! 0, (ByteArray.mk #[116, 101, 120, 116, 32, 111, 102, 32, 121]).get! (0 + 1), (ByteArray.mk #[116, 101, 120, 116, 32, 111, 102, 32, 121]).get! 2, (ByteArray.mk #[116, 101, 120, 116, 32, 111, 102, 32, 121]).get! 3, (ByteArray.mk #[116, 101, 120, 116, 32, 111, 102, 32, 121]).get! 4, (ByteArray.mk #[116, 101, 120, 116, 32, 111, 102, 32, 121]).get! 5, (ByteArray.mk #[116, 101, 120, 116, 32, 111, 102, 32, 121]).get! 6, (ByteArray.mk #[116, 101, 120, 116, 32, 111, 102, 32, 121]).get! 7, (ByteArray.mk #[116, 101, 120, 116, 32, 111, 102, 32, 121]).get! 8] && r_1 && r_2 && x_33 == 25 && x_41 == 0 &&
 x_43 == 2 && r_3) (∀ (W : World), Loc w.heap.size [Blk.mk n_11 42 ([Value.int .i64 x_34] ++ arrI .u8 f_8 32 0 ++ ([Value.string x_35, .int .i64 x_36, .bool x_37, .slice p_1 n_10 c_1, .string x_38, .int .i64 x_39, .int .i64 x_40] ++ arrI .u8 f_9 16 0)) (wrM 2), Blk.mk n_9 42 ([Value.int .i64 x_26] ++ arrI .u8 f_6 32 0 ++ ([Value.string x_27, .int .i64 x_28, .bool x_29, .slice p n_8 c, .string x_30, .int .i64 x_31, .int .i64 x_32] ++ arrI .u8 f_7 16 0)) 0, Blk.mk n_7 48 (arrI .u8 f_4 32 0 ++ ([Value.string x_19, .string x_20, .int .i64 x_21, .int .i64 x_22] ++ arrI .u8 f_5 16 0 ++ [Value.int .i64 x_23, .string x_24])) 0, Blk.mk n_6 48 (arrI .u8 f_2 32 0 ++ ([Value.string x_12, .string x_13, .int .i64 x_14, .int .i64 x_15] ++ arrI .u8 f_3 16 0 ++ [Value.int .i64 x_16, .string x_17])) 0, Blk.mk n_5 48 (arrI .u8 f 32 0 ++ ([Value.string x_5, .string x_6, .int .i64 x_7, .int .i64
 x_8] ++ arrI .u8 f_1 16 0 ++ [Value.int .i64 x_9, .string x_10])) 0, Blk.mk n_3 32 [Value.int .u8 3, .int .u8 0, .int .u8 0, .int .u8 0, .int .u8 0, .int .u8 0, .int .u8 0, .int .u8 0, .int .u8 0, .int .u8 0, .int .u8 0, .int .u8 0, .int .u8 0, .int .u8 0, .int .u8 0, .int .u8 0, .int .u8 0, .int .u8 0, .int .u8 0, .int .u8 0, .int .u8 0, .int .u8 0, .int .u8 0, .int .u8 0, .int .u8 0, .int .u8 0, .int .u8 0, .int .u8 0, .int .u8 0, .int .u8 0, .int .u8 0, .int .u8 0] 0, Blk.mk n_2 32 [Value.int .u8 7, .int .u8 0, .int .u8 0, .int .u8 0, .int .u8 0, .int .u8 0, .int .u8 0, .int .u8 0, .int .u8 0, .int .u8 0, .int .u8 0, .int .u8 0, .int .u8 0, .int .u8 0, .int .u8 0, .int .u8 0, .int .u8 0, .int .u8 0, .int .u8 0, .int .u8 0, .int .u8 0, .int .u8 0, .int .u8 0, .int .u8 0, .int .u8 0, .int .u8 0, .int .u8 0, .int .u8 0, .int .u8 0, .int .u8 0, .int .u8 0, .int .u8 0] 0, Blk.mk n_1 45
 [Value.int .u8 2, .int .u8 0, .int .u8 0, .int .u8 0, .int .u8 0, .int .u8 0, .int .u8 0, .int .u8 0, .int .u8 0, .int .u8 0, .int .u8 0, .int .u8 0, .int .u8 0, .int .u8 0, .int .u8 0, .int .u8 0] 0, Blk.mk n 45 [Value.int .u8 1, .int .u8 0, .int .u8 0, .int .u8 0, .int .u8 0, .int .u8 0, .int .u8 0, .int .u8 0, .int .u8 0, .int .u8 0, .int .u8 0, .int .u8 0, .int .u8 0, .int .u8 0, .int .u8 0, .int .u8 0] 0] w' W -> W.cell? (Addr.mk n_11 (0 + 33) none) = some (.string x_44)) /\ ∀ (W : World), Loc w.heap.size [Blk.mk n_11 42 ([Value.int .i64 x_34] ++ arrI .u8 f_8 32 0 ++ ([Value.string x_35, .int .i64 x_36, .bool x_37, .slice p_1 n_10 c_1, .string x_38, .int .i64 x_39, .int .i64 x_40] ++ arrI .u8 f_9 16 0)) (wrM 2), Blk.mk n_9 42 ([Value.int .i64 x_26] ++ arrI .u8 f_6 32 0 ++ ([Value.string x_27, .int .i64 x_28, .bool x_29, .slice p n_8 c, .string x_30, .int .i64 x_31, .int .i64
 x_32] ++ arrI .u8 f_7 16 0)) 0, Blk.mk n_7 48 (arrI .u8 f_4 32 0 ++ ([Value.string x_19, .string x_20, .int .i64 x_21, .int .i64 x_22] ++ arrI .u8 f_5 16 0 ++ [Value.int .i64 x_23, .string x_24])) 0, Blk.mk n_6 48 (arrI .u8 f_2 32 0 ++ ([Value.string x_12, .string x_13, .int .i64 x_14, .int .i64 x_15] ++ arrI .u8 f_3 16 0 ++ [Value.int .i64 x_16, .string x_17])) 0, Blk.mk n_5 48 (arrI .u8 f 32 0 ++ ([Value.string x_5, .string x_6, .int .i64 x_7, .int .i64 x_8] ++ arrI .u8 f_1 16 0 ++ [Value.int .i64 x_9, .string x_10])) 0, Blk.mk n_3 32 [Value.int .u8 3, .int .u8 0, .int .u8 0, .int .u8 0, .int .u8 0, .int .u8 0, .int .u8 0, .int .u8 0, .int .u8 0, .int .u8 0, .int .u8 0, .int .u8 0, .int .u8 0, .int .u8 0, .int .u8 0, .int .u8 0, .int .u8 0, .int .u8 0, .int .u8 0, .int .u8 0, .int .u8 0, .int .u8 0, .int .u8 0, .int .u8 0, .int .u8 0, .int .u8 0, .int .u8 0, .int .u8 0, .int .u8 0,
 .int .u8 0, .int .u8 0, .int .u8 0] 0, Blk.mk n_2 32 [Value.int .u8 7, .int .u8 0, .int .u8 0, .int .u8 0, .int .u8 0, .int .u8 0, .int .u8 0, .int .u8 0, .int .u8 0, .int .u8 0, .int .u8 0, .int .u8 0, .int .u8 0, .int .u8 0, .int .u8 0, .int .u8 0, .int .u8 0, .int .u8 0, .int .u8 0, .int .u8 0, .int .u8 0, .int .u8 0, .int .u8 0, .int .u8 0, .int .u8 0, .int .u8 0, .int .u8 0, .int .u8 0, .int .u8 0, .int .u8 0, .int .u8 0, .int .u8 0] 0, Blk.mk n_1 45 [Value.int .u8 2, .int .u8 0, .int .u8 0, .int .u8 0, .int .u8 0, .int .u8 0, .int .u8 0, .int .u8 0, .int .u8 0, .int .u8 0, .int .u8 0, .int .u8 0, .int .u8 0, .int .u8 0, .int .u8 0, .int .u8 0] 0, Blk.mk n 45 [Value.int .u8 1, .int .u8 0, .int .u8 0, .int .u8 0, .int .u8 0, .int .u8 0, .int .u8 0, .int .u8 0, .int .u8 0, .int .u8 0, .int .u8 0, .int .u8 0, .int .u8 0, .int .u8 0, .int .u8 0, .int .u8 0] 0] w' W -> bsp (x_2 == 0 &&
 x_3 == 0 && x_4 == 0 && x_11 == 0 && r && x_42.toList == [(ByteArray.mk #[116, 101, 120, 116, 32, 111, 102, 32, 121]).get! 0, (ByteArray.mk #[116, 101, 120, 116, 32, 111, 102, 32, 121]).get! (0 + 1), (ByteArray.mk #[116, 101, 120, 116, 32, 111, 102, 32, 121]).get! 2, (ByteArray.mk #[116, 101, 120, 116, 32, 111, 102, 32, 121]).get! 3, (ByteArray.mk #[116, 101, 120, 116, 32, 111, 102, 32, 121]).get! 4, (ByteArray.mk #[116, 101, 120, 116, 32, 111, 102, 32, 121]).get! 5, (ByteArray.mk #[116, 101, 120, 116, 32, 111, 102, 32, 121]).get! 6, (ByteArray.mk #[116, 101, 120, 116, 32, 111, 102, 32, 121]).get! 7, (ByteArray.mk #[116, 101, 120, 116, 32, 111, 102, 32, 121]).get! 8] && r_1 && r_2 && x_33 == 25 && x_41 == 0 && x_43 == 2 && r_3 && x_44.toList == [(ByteArray.mk #[103]).get! 0]) (CallsS Tryz.prog 15 #[.pointer x, .string (ByteArray.mk #[103]), .int .i64 1] W fun (e : Ending) (w' :
 World) => ∃ (x : Int), e = .returned (.int .i64 x) /\ KeptL [n_11, n_9, n_7, n_6, n_5, n_3, n_2, n_1, n] W w' /\ R (.returned (.bool (true && x == 1))) w') (KeptL [n_11, n_9, n_7, n_6, n_5, n_3, n_2, n_1, n] W W /\ R (.returned (.bool false)) W))
theorem vc_lknown (w : World) (R : Ending -> World -> Prop) (h : VC_lknown w R) : Calls Tryz.prog 14 ([] : List Value).toArray w R :=
 calls_of_exec2' (loops := []) (tails := []) (joins := []) (boxes := []) (rngs := []) (c := Tryz.f14.body.getD .skip) pur1_ok Tryz.func14 (by kernel_rfl) (by kernel_rfl) h
end Go.Proofs.YtfacflbmlfbeeaaGreatDoor
