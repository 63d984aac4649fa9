/- The symbolic evaluator, tenth part: from a formula with own blocks to the contract. Generic: no program, no condition. -/
import Derived.Test.YtgmmoghagpmpfaaGreatDoorZ03
import Derived.Scope
import Derived.Control
import Derived.SizedLaws
import Derived.Lib.Bytealg
namespace Go.Proofs.YtgmmoghagpmpfaaGreatDoor
open Go.RowKit

theorem loc_add {z : Nat} {B l : Bs} {i : Nat} {b : Blk} {w W : World} (h : Loc z (b :: blksOf (B ++ l)) w W) : Loc z (blksOf (B ++ (i, b) :: l)) w W := by
  refine h.perm ?_
  rw [blksOf_eq, blksOf_eq]
  simp only [List.map_append, List.map_cons]
  exact List.perm_middle.symm
theorem add_bs (T : Trk) (b : Blk) (dst : Option Nat) : (T.add b dst).bs = (T.nx, b) :: T.bs := by unfold Trk.add; split <;> rfl
theorem addS_bs (T : Trk) (b : Blk) (dst : Option Nat) : (T.addS b dst).bs = (T.nx, b) :: T.bs := by unfold Trk.addS; split <;> rfl
theorem trkApp_ok {E : Env} {B : Bs} {T : Trk} {l : Fr} {o : Oper} {t : Array Value} {z : Nat} {w W : World} {e : TypeId} {x : Operand} {p : Option Addr} {n c m id : Nat} {news : List Value} (ha : trkApp E B T l o.op = some (e, x, p, n, c, news, m, id)) (h : Rel l t) (hT : TagOK B T t) (hL : LocD z B T w W)
    {K : Fr → Trk → World → Prop} (hf : app2F E z B o l T w e p n c news m id K) : seqF0 E o none l W fun l' w' => keptF (numsOf (B ++ ((T.drop [id]).untag o.dst).bs)) W w' (K l' ((T.drop [id]).untag o.dst) w') := by
  obtain ⟨dst, op, ty, pos, aft, gd⟩ := o
  unfold trkApp at ha
  simp only at ha
  split at ha
  · rename_i args argTypes
    split at ha
    · rename_i x' s tt tt' hargs htys
      split at ha
      · rename_i id' htt hid
        split at ha
        · rename_i b p' n' c' q m' c2 e' hb hx hy hu
          split at ha
          · rename_i i hi
            split at ha
            · rename_i zv hz
              split at ha
              · rename_i hcond
                simp at ha
                obtain ⟨rfl, rfl, rfl, rfl, rfl, rfl, rfl, rfl⟩ := ha
                simp only [Bool.and_eq_true, beq_iff_eq] at hcond
                obtain ⟨h1, h2, h3, h4⟩ := hcond
                obtain ⟨base, xs, ho, hle, hby, hbase, hk⟩ := syncF_use hf hL
                have hm := lookB_mem hb
                have hbk := hL.l.blk b (mem_blks.2 ⟨id', hm⟩)
                obtain ⟨m2, c3, hq⟩ := (hT.s s id' (findN_mem hid)).2 b hm
                have ey : t.getD s undef = .slice q m' c2 := rd_ok (ds := []) h (fun _ _ hm => by simp at hm) hy
                rw [hq] at ey
                simp only [Value.slice.injEq] at ey
                obtain ⟨rfl, rfl, rfl⟩ := ey
                have hsz : szB E.P e' = (i.size, i.bytes) := by unfold szB; rw [hi]
                rw [hsz] at ho hby
                unfold seqF0
                simp only [hargs, htys, htt]
                unfold appendO
                rw [hx, hy]
                simp only [hu, hi, hz, h1, h2, beq_self_eq_true, Bool.true_and]
                refine ⟨base, xs, b.cs, ho, h3, ?_, hle, hby, hbase, fun p' c' w' ho' hg hr => ?_⟩
                · have := src_block hbk (fun u hu => by
                    have := List.all_eq_true.1 h4 u (by simpa using hu)
                    exact this)
                  simpa using this
                · have := hk p' c' w' (by rw [hsz]; exact ho') hg hr
                  exact this
              · cases ha
            · cases ha
          · cases ha
        · cases ha
      · cases ha
    · cases ha
  · cases ha

section
variable {E : Env} (hp : PurOK E) {ops : Array Oper} {z : Nat} {B : Bs} include hp
theorem seqF2_ok {o : Oper} {l : Fr} {T : Trk} {w W : World} {tmps : Array Value} {K : Fr → Trk → World → Prop} {N : Act → World → Prop} {Q : Exit → Act → World → Prop} (h : Rel l tmps) (hT : TagOK B T tmps) (hL : LocD z B T w W) (hf : seqF2 E z B ops o l T w K)
    (hK : ∀ l' tmps' T' w' W', Rel l' tmps' → Same o.dst.toList tmps tmps' → TagOK B T' tmps' → LocD z B T' w' W' → K l' T' w' → N { tmps := tmps', defers := [] } W') : stepG' E.P ops o { tmps, defers := [] } W N Q := by
  have hLu : ∀ {T : Trk} {w W : World}, LocD z B T w W → LocD z B (T.untag o.dst) w W := fun {T w W} hL => ⟨by unfold allB; rw [untag_bs]; exact hL.l, by unfold Trk.untag; split <;> exact hL.d, hL.b0⟩
  unfold seqF2 at hf
  cases hc : ctxOf ops o with
  | none => rw [hc] at hf; exact hf.elim
  | some ctx =>
    rw [hc] at hf
    simp only at hf
    have hwo := wanted_ok (tmps := tmps) hc
    have yes : ∀ {l' : Fr}, Rel l' tmps → Chain tmps (chain l 12 ctx).reverse → Region.wanted o (yielded ops tmps) = true := fun {l'} _ h3 => hwo.2 (by
      cases ctx with
      | none => trivial
      | some jw => exact h3 jw.1 jw.2 (by simp [chain]))
    have no : ∀ {l' : Fr}, Rel l' tmps → ¬ Chain tmps (chain l 12 ctx).reverse → K (putF l' o.dst (.v undef)) (T.untag o.dst) w → stepG' E.P ops o { tmps, defers := [] } W N Q := fun {l'} h1 h3 h2 => by
      have hW : ¬ Wants tmps ctx := fun hW => h3 fun i b hm => chain_ok h 12 ctx hW i b (by simpa using hm)
      have hw : Region.wanted o (yielded ops tmps) = false := by
        cases hw : Region.wanted o (yielded ops tmps) with
        | true => exact absurd (hwo.1 hw) hW
        | false => rfl
      unfold stepG'
      rw [if_neg (by simp [hw]), put_act]
      exact hK _ _ _ _ _ (h1.fin (ctx := none) (fun _ => rfl) (fun hn => absurd trivial hn)) (.put tmps o.dst _) (hT.put (.put _ _ _)) (hLu hL) h2
    have val : ∀ {l' : Fr} {v : Value} {T' : Trk} {w' W' : World}, Rel l' tmps → Region.wanted o (yielded ops tmps) = true → (execOp ({ tmps, defers := [] } : Act).eval o).run E.P W = .ok (.value v) W' → TagOK B T' (({ tmps, defers := [] } : Act).put o.dst v).tmps → LocD z B T' w' W' → K (putF l' o.dst (.v v)) T' w' → stepG' E.P ops o { tmps, defers := [] } W N Q := by
      intro l' v T' w' W' h1 hw hrun hT' hL' hk
      unfold stepG'
      rw [if_pos hw]
      refine .inl ?_
      unfold Oper.wp
      rw [hrun]
      show N (({ tmps, defers := [] } : Act).put o.dst v) W'
      rw [put_act]
      exact hK _ _ _ _ _ (h1.fin (ctx := none) (fun _ => rfl) (fun hn => absurd trivial hn)) (.put tmps o.dst v) hT' hL' hk
    split at hf
    · rename_i hnew
      rcases splitG_ok _ l h hf with ⟨l', h1, h2, h3⟩ | ⟨l', h1, h2, h3⟩
      · have hw := yes h1 h3
        split at h2
        · rename_i hi
          obtain ⟨T1, w1, h4, hT1, hL1⟩ := dropF_ok h2 hT hL
          unfold new2 at h4
          split at h4
          · rename_i t hop
            split at h4
            · rename_i v hv
              have hrun : (execOp ({ tmps, defers := [] } : Act).eval o).run E.P W = .ok (.value (.pointer (some ⟨W.heap.size, 0, none⟩))) (W.alloc (.cells v.cells t)) := by
                have := run_alloc2 (w := W) hv
                unfold execOp
                rw [hop]
                simp [this]
              refine val h1 hw hrun (tag_add (b := ⟨W.heap.size, t, v.cells.toList, 2⟩) h1 hi hT1) ?_ (h4 W.heap.size)
              refine ⟨?_, by unfold Trk.add; split <;> exact (fun h => by cases h), hL1.b0⟩
              unfold allB; rw [add_bs]
              exact loc_add (loc_new hL1.l t v.cells)
            · exact h4.elim
          · rename_i t x hop
            split at h4
            · rename_i v hv
              have ev := rd_ok (ds := []) h1 (fun _ _ hm => by simp at hm) hv
              have hrun : (execOp ({ tmps, defers := [] } : Act).eval o).run E.P W = .ok (.value (.pointer (some ⟨W.heap.size, 0, none⟩))) (W.alloc (.cells v.cells t)) := by
                have := run_box2 (P := E.P) (w := W) (t := t) (v := v)
                unfold execOp
                rw [hop]
                simp only [ev]
                simp [this]
              refine val h1 hw hrun (tag_add (b := ⟨W.heap.size, t, v.cells.toList, 2⟩) h1 hi hT1) ?_ (h4 W.heap.size)
              refine ⟨?_, by unfold Trk.add; split <;> exact (fun h => by cases h), hL1.b0⟩
              unfold allB; rw [add_bs]
              exact loc_add (loc_new hL1.l t v.cells)
            · exact h4.elim
          · rename_i t len parts hop
            split at h4
            · rename_i e cells ha hrow
              have hrun : (execOp ({ tmps, defers := [] } : Act).eval o).run E.P W = .ok (.value (.slice (some ⟨W.heap.size, 0, none⟩) len len)) (W.alloc (.cells cells e)) := by
                have hcg : execOp ({ tmps, defers := [] } : Act).eval o = execOp (rdV l' []) o := execOp_congr o (by simp [hop]) (fun x hx => by
                  unfold allRd at ha
                  exact rdV_ok h1 (fun _ _ hm => by simp at hm) (List.all_eq_true.1 ha x (by simpa using hx)))
                have := run_slice2 (w := W) hrow
                rw [hcg]
                unfold execOp
                rw [hop]
                simp [this]
              refine val h1 hw hrun (tag_addS (b := ⟨W.heap.size, e, cells.toList, 2⟩) h1 hi hT1) ?_ (h4 W.heap.size)
              refine ⟨?_, by unfold Trk.addS; split <;> exact (fun h => by cases h), hL1.b0⟩
              unfold allB; rw [addS_bs]
              exact loc_add (loc_new hL1.l e cells)
            · exact h4.elim
          · exact h4.elim
        · exact h2.elim
      · exact no h1 h3 h2
    · split at hf
      · rcases splitG_ok _ l h hf with ⟨l', h1, h2, h3⟩ | ⟨l', h1, h2, h3⟩
        · have hw := yes h1 h3
          split at h2
          · rename_i T' hst
            obtain ⟨W', hrun, hT', hL'⟩ := trkStore_ok hst h1 hT hL
            obtain ⟨T1, w1, h4, hT1, hL1⟩ := dropF_ok h2 hT' hL'
            unfold stepG'
            rw [if_pos hw]
            refine .inl ?_
            unfold Oper.wp
            rw [hrun]
            show N (({ tmps, defers := [] } : Act).put o.dst undef) W'
            rw [put_act]
            exact hK _ _ _ _ _ (h1.fin (ctx := none) (fun _ => rfl) (fun hn => absurd trivial hn)) (.put tmps o.dst _) (hT1.put (.put _ _ _)) (hLu hL1) h4
          · exact h2.elim
        · exact no h1 h3 h2
      · split at hf
        · rename_i hcn happ
          have hcn := isNone_eq hcn
          subst hcn
          refine seqF0_ok hp (ctx := none) hwo h (trkApp_ok happ h hT hL hf) (fun l' t' w' hr hs hk => ?_)
          obtain ⟨hsz, hkp, hk⟩ := keptF_ok hk
          refine hK l' t' _ w' w' hr hs ((hT.drop _).put hs) (hL.eff (by rw [untag_bs]; rfl) hsz hkp) hk
        · split at hf
          · obtain ⟨v, l', T', w', h1, h2, hT', hL', h3⟩ := still2_ok hp h hT hL hwo (ctx_guard hc) hf
            have next : N (({ tmps, defers := [] } : Act).put o.dst v) W := by
              rw [put_act]; exact hK l' _ T' w' W h2 (.put tmps o.dst v) hT' hL' h1
            unfold stepG'
            rcases h3 with ⟨hw, hy⟩ | ⟨hw, rfl⟩
            · rw [if_pos hw]
              refine .inl ?_
              unfold Oper.wp
              rcases hy with hy | ⟨_, f, args, hy, hcall⟩
              · rw [hy]; exact next
              · rw [hy]
                exact hcall.mono fun e w' ⟨he, hw'⟩ => by subst he; subst hw'; exact next
            · rw [if_neg (by simp [hw])]
              exact next
          · refine seqF_ok hp h (syncF_use hf hL) (fun l' t' w' hr hs hk => ?_)
            obtain ⟨hsz, hkp, hk⟩ := keptF_ok hk
            refine hK l' t' _ w' w' hr hs ((hT.drop _).put hs) (hL.eff (by rw [untag_bs]; rfl) hsz hkp) hk
theorem seqOps2_ok {K : Fr → Trk → World → Prop} {Q : Exit → Act → World → Prop} : ∀ (r : List Oper) (l : Fr) (T : Trk) (w W : World) (tmps : Array Value), Rel l tmps → TagOK B T tmps → LocD z B T w W → seqOps2 E z B ops K r l T w →
    (∀ l' tmps' T' w' W', Rel l' tmps' → Same (r.filterMap (·.dst)) tmps tmps' → TagOK B T' tmps' → LocD z B T' w' W' → K l' T' w' → Q .normal { tmps := tmps', defers := [] } W') → wpList E.P ops Q r { tmps, defers := [] } W
  | [], l, T, w, W, tmps, h, hT, hL, hf, hQ => hQ l tmps T w W h (.refl _ _) hT hL hf
  | o :: r, l, T, w, W, tmps, h, hT, hL, hf, hQ => by
    show stepG' E.P ops o { tmps, defers := [] } W (wpList E.P ops Q r) Q
    refine seqF2_ok hp h hT hL hf (fun l' tmps' T' w' W' hr hs hT' hL' hk => seqOps2_ok r l' T' w' W' tmps' hr hT' hL' hk (fun l'' t'' T'' w'' W'' hr' hs' hT2 hL2 hk' => hQ l'' t'' T'' w'' W'' hr' ?_ hT2 hL2 hk'))
    refine (hs.trans hs').mono fun i hi => ?_
    rcases List.mem_append.1 hi with hi | hi
    · cases hd : o.dst with
      | none => simp [hd] at hi
      | some d => simp [hd] at hi; simp [hd, hi]
    · cases hd : o.dst with
      | none => simpa [hd] using hi
      | some d => simp only [List.filterMap_cons, hd, List.mem_cons]; exact .inr hi
omit hp in
theorem tag_untags {T : Trk} {t t' : Array Value} {ds es : List Nat} (h : TagOK B T t) (hs : Same ds t t') (he : ∀ i ∈ ds, i ∈ es) : TagOK B (T.untags es) t' :=
  h.of (fun x hx => by obtain ⟨h1, h2⟩ := delAll_mem hx; exact ⟨h1, hs.at_ _ (fun hd => h2 (he _ hd))⟩) (fun x hx => by obtain ⟨h1, h2⟩ := delAll_mem hx; exact ⟨h1, hs.at_ _ (fun hd => h2 (he _ hd))⟩) (fun x hx => ⟨x, hx, rfl, rfl⟩) (Nat.le_refl _)
omit hp in
theorem locF_use {L : List Blk} {w : World} {X : Prop} (hf : locF z L w X) (hL : Loc z L w w) : X := by
  unfold locF at hf
  split at hf
  · exact hf
  · exact hf hL
end
section
variable {E : Env} (hp : PurOK E) {z : Nat} include hp
theorem exec2_ok (c : Code) : ∀ (B : Bs) (Q : Exit → Fr → Trk → World → Prop) (Q' : Exit → Act → World → Prop) (l : Fr) (T : Trk) (tmps : Array Value) (w W : World), Rel l tmps → TagOK B T tmps → LocD z B T w W → exec2 E z c B Q l T w →
    (∀ e l' tmps' T' w' W', Rel l' tmps' → Same (dsts c) tmps tmps' → TagOK B T' tmps' → LocD z B T' w' W' → Q e l' T' w' → Q' e { tmps := tmps', defers := [] } W') → c.wp E.P Q' { tmps, defers := [] } W := by
  have back : ∀ {B keep : Bs} {T' : Trk} {t : Array Value}, TagOK (B ++ keep) T' t → TagOK B ⟨keep ++ T'.bs, T'.tg, T'.sg, T'.nx, T'.d⟩ t := fun h => h.of (fun x hx => ⟨hx, rfl⟩) (fun x hx => ⟨hx, rfl⟩) (fun x hx => ⟨x, by simpa [List.append_assoc] using hx, rfl, rfl⟩) (Nat.le_refl _)
  have backL : ∀ {B keep : Bs} {T' : Trk} {w W : World}, LocD z (B ++ keep) T' w W → LocD z B ⟨keep ++ T'.bs, T'.tg, T'.sg, T'.nx, T'.d⟩ w W := fun h => ⟨by have := h.l; unfold allB at this ⊢; simpa [List.append_assoc] using this, h.d, fun x hx => h.b0 x (List.mem_append.2 (.inl hx))⟩
  have hso : ∀ {B : Bs} {T : Trk} {w W : World}, LocD z B T w W → LocD z B T.soil w W.drew := fun h => ⟨h.l.drew, (fun h => by cases h), h.b0⟩
  have tso : ∀ {B : Bs} {T : Trk} {t : Array Value}, TagOK B T t → TagOK B T.soil t := fun h => ⟨h.p, h.s, h.lt⟩
  induction c with
  | skip => exact fun B Q Q' l T tmps w W h hT hL hf hQ => wp_skip (hQ _ _ _ _ _ _ h (.refl _ _) hT hL hf)
  | exit id => exact fun B Q Q' l T tmps w W h hT hL hf hQ => wp_exit (hQ _ _ _ _ _ _ h (.refl _ _) hT hL hf)
  | ret => exact fun B Q Q' l T tmps w W h hT hL hf hQ => wp_ret (hQ _ _ _ _ _ _ h (.refl _ _) hT hL hf)
  | region id ops draw =>
    intro B Q Q' l T tmps w W h hT hL hf hQ
    cases draw with
    | false =>
      exact wp_region_list (seqOps2_ok hp ops.toList l T w W tmps h hT hL hf (fun l' t' T' w' W' hr hs hT' hL' hk => hQ _ _ _ _ _ _ hr hs hT' hL' hk))
    | true =>
      simp only [exec2] at hf
      split at hf
      · rename_i hm hn
        split at hf
        · rename_i hB
          exact wp_region_still hm hB (stillOps2_ok (W := W.drew) hp ops.toList l T.soil w tmps h (tso hT) (hso hL) hf (fun l' t' T' w' hr hs hT' hL' hk => hQ _ _ _ _ _ _ hr hs hT' hL' hk))
        · exact hf.elim
      · rename_i n hm hn
        split at hf
        · rename_i hB
          have hops : ops = ops.toList.toArray := by simp
          rw [hops]
          rw [hops] at hB
          refine wp_region_still_tail n hm hB ?_
          rw [← hops]
          refine stillOps2_ok (W := W.drew) hp (ops.toList.take n) l T.soil w tmps h (tso hT) (hso hL) hf (fun l' t' T' w' hr hs hT' hL' hk => ?_)
          refine seqOps2_ok hp (ops.toList.drop n) l' T' w' W.drew t' hr hT' hL' hk (fun l'' t'' T'' w'' W'' hr' hs' hT2 hL2 hk' => hQ _ _ _ _ _ _ hr' ?_ hT2 hL2 hk')
          refine (hs.trans hs').mono fun i hi => ?_
          rw [← List.filterMap_append, List.take_append_drop] at hi
          exact hi
        · have fin : ∀ {l' : Fr} {t' : Array Value} {w' : World}, Rel l' t' → Same (ops.toList.filterMap (·.dst)) tmps t' → keptF (numsOf (B ++ ((T.drop (touched (.region id ops true) T)).untags (dsts (.region id ops true))).bs)) W.drew w' (Q .normal l' ((T.drop (touched (.region id ops true) T)).untags (dsts (.region id ops true))) w') → Q' .normal { tmps := t', defers := [] } w' := fun {l' t' w'} hr hs hk => by
            obtain ⟨hsz, hkp, hk⟩ := keptF_ok hk
            exact hQ .normal l' t' _ w' w' hr hs (tag_untags (hT.drop _) hs (fun i hi => hi)) ((hso hL).eff rfl hsz hkp) hk
          split at hf
          · rename_i hsel _
            have hf := syncF_use hf (hso hL)
            have hfg : Rel (forget (boxDs E.P ops.toList) l) tmps := forget_ok h (.refl _ _)
            have hH := boxF_ok (t0 := tmps) hp hsel (Q := Q') (fun l' t' w' hr hs hk => fin hr hs hk) _ ops.size _ _ tmps hfg (.refl _ _) (by simp) (by unfold unl; exact Nat.le_trans List.countP_le_length (by simp)) hf
            refine Code.wp_mono (fun e a w hq => ?_) (wp_region_any hm (wpAny_of_N _ _ _ _ hH))
            cases e with
            | panic c => exact hq.elim
            | _ => exact hq
          · rename_i hsel _
            obtain ⟨S, hS, hf⟩ := syncF_use hf (hso hL)
            have hH := heldF_ok (t0 := tmps) hp hsel (Q := Q') (fun l' t' w' hr hs hk => fin hr hs hk) _ _ _ l tmps W.drew h (.refl _ _) (fun _ => hS) hf
            refine Code.wp_mono (fun e a w hq => ?_) (wp_region_any hm (wpAny_of_N _ _ _ _ hH))
            cases e with
            | panic c => exact hq.elim
            | _ => exact hq
          · exact hf.elim
      · exact hf.elim
  | seq a b iha ihb =>
    intro B Q Q' l T tmps w W h hT hL hf hQ
    simp only [exec2] at hf
    split at hf
    · refine wp_seq (iha B _ _ l T tmps w W h hT hL hf (fun e l' t' T' w' W' hr hs hT' hL' hk => ?_))
      cases e with
      | normal => exact ihb B Q Q' l' T' t' w' W' hr hT' hL' hk (fun e l'' t'' T'' w'' W'' hr' hs' hT2 hL2 hk' => hQ _ _ _ _ _ _ hr' (hs.trans hs') hT2 hL2 hk')
      | _ => exact hQ _ _ _ _ _ _ hr (hs.mono fun i hi => List.mem_append.2 (.inl hi)) hT' hL' hk
    · rename_i carried hcar
      obtain ⟨J, ha, hall⟩ := syncF_use hf hL
      have hperm := delKeep_perm (ds := touched a T) T.bs
      have hTk : TagOK B ⟨calm (delAll (touched a T) T.bs), T.tg, T.sg, T.nx, false⟩ tmps := hT.of (fun x hx => ⟨hx, rfl⟩) (fun x hx => ⟨hx, rfl⟩) (fun x hx => by
        rcases List.mem_append.1 hx with hx | hx
        · exact ⟨x, List.mem_append.2 (.inl hx), rfl, rfl⟩
        · obtain ⟨_, y, hy, h2⟩ := calm_mem hx
          exact ⟨y, List.mem_append.2 (.inr (delAll_mem hy).1), h2⟩) (Nat.le_refl _)
      have hT0 : TagOK (B ++ calm (delAll (touched a T) T.bs)) ⟨calm (keepAll (touched a T) T.bs), T.tg, T.sg, T.nx, false⟩ tmps := hT.of (fun x hx => ⟨hx, rfl⟩) (fun x hx => ⟨hx, rfl⟩) (fun x hx => by
        rw [List.append_assoc] at hx
        rcases List.mem_append.1 hx with hx | hx
        · exact ⟨x, List.mem_append.2 (.inl hx), rfl, rfl⟩
        · rcases List.mem_append.1 hx with hx | hx
          · obtain ⟨_, y, hy, h2⟩ := calm_mem hx
            exact ⟨y, List.mem_append.2 (.inr (hperm.mem_iff.1 (List.mem_append.2 (.inl hy)))), h2⟩
          · obtain ⟨_, y, hy, h2⟩ := calm_mem hx
            exact ⟨y, List.mem_append.2 (.inr (hperm.mem_iff.1 (List.mem_append.2 (.inr hy)))), h2⟩) (Nat.le_refl _)
      have hL0 : LocD z (B ++ calm (delAll (touched a T) T.bs)) ⟨calm (keepAll (touched a T) T.bs), T.tg, T.sg, T.nx, false⟩ W W := by
        have hp : (blksOf (B ++ T.bs)).Perm (blksOf (B ++ (delAll (touched a T) T.bs ++ keepAll (touched a T) T.bs))) := by
          rw [blksOf_eq, blksOf_eq]
          exact List.Perm.map _ ((List.Perm.refl B).append hperm.symm)
        have hb0 : ∀ x ∈ B ++ calm (delAll (touched a T) T.bs), x.2.m = 0 := fun x hx => by
          rcases List.mem_append.1 hx with hx | hx
          · exact hL.b0 x hx
          · exact (calm_mem hx).1
        refine ⟨loc_zero (hL.l.perm hp) (.refl _) ?_ ?_, fun _ => rfl, hb0⟩
        · unfold allB; simp only [blks_app, List.map_append, calm_key, List.append_assoc]
        · intro x hx
          obtain ⟨i, hi⟩ := mem_blks.1 hx
          rcases List.mem_append.1 hi with hi | hi
          · exact hb0 _ hi
          · exact (calm_mem hi).1
      refine wp_seq (iha _ _ _ l _ tmps W W h hT0 hL0 ha (fun e l' t' T' w' W' hr hs hT' hL' hk => ?_))
      cases e with
      | normal =>
        simp only at hk
        have hk := syncF_use hk hL'
        split at hk
        · rename_i vs hvs
          obtain ⟨h1, h2⟩ := readAll_ok hr carried vs hvs
          subst h1
          have hsub : Loc z (blksOf (B ++ calm (delAll (touched a T) T.bs))) W' W' := loc_zero hL'.l (blks_sub (List.sublist_append_left _ _)) rfl (fun x hx => by obtain ⟨i, hi⟩ := mem_blks.1 hx; exact hL'.b0 _ hi)
          have hb := locF_use (allT_at _ _ hall _ h2 W' hk) hsub
          refine ihb B Q Q' _ _ t' W' W' (setAll_ok carried _ (forget_ok h hs)) ?_ ?_ hb (fun e l'' t'' T'' w'' W'' hr' hs' hT2 hL2 hk' => hQ _ _ _ _ _ _ hr' (hs.trans hs') hT2 hL2 hk')
          · exact tag_untags hTk hs (fun i hi => List.mem_append.2 (.inl hi))
          · exact ⟨hsub, fun _ => rfl, hL.b0⟩
        · exact hk.elim
      | _ => exact hQ _ _ _ _ _ _ hr (hs.mono fun i hi => List.mem_append.2 (.inl hi)) (back hT') (backL hL') hk
  | cond c a b iha ihb =>
    intro B Q Q' l T tmps w W h hT hL hf hQ
    simp only [exec2] at hf
    split at hf
    · rename_i t ht
      have ev := rd_ok (ds := []) h (fun _ _ hm => by simp at hm) ht
      cases t with
      | true => exact wp_cond_true ev (iha B Q Q' l T tmps w W h hT hL hf (fun e l' t' T' w' W' hr hs hT' hL' hk => hQ _ _ _ _ _ _ hr (hs.mono fun i hi => List.mem_append.2 (.inl hi)) hT' hL' hk))
      | false => exact wp_cond_false ev (ihb B Q Q' l T tmps w W h hT hL hf (fun e l' t' T' w' W' hr hs hT' hL' hk => hQ _ _ _ _ _ _ hr (hs.mono fun i hi => List.mem_append.2 (.inr hi)) hT' hL' hk))
    · exact hf.elim
  | block id c ih =>
    intro B Q Q' l T tmps w W h hT hL hf hQ
    refine wp_block (ih B _ _ l T tmps w W h hT hL hf (fun e l' t' T' w' W' hr hs hT' hL' hk => ?_))
    cases e with
    | exit i =>
      simp only at hk
      simp only [Exit.inBlock]
      split at hk
      · rename_i hi
        rw [if_pos (by simpa using hi)]
        exact hQ _ _ _ _ _ _ hr hs hT' hL' hk
      · rename_i hi
        rw [if_neg (by simpa using hi)]
        exact hQ _ _ _ _ _ _ hr hs hT' hL' hk
    | _ => exact hQ _ _ _ _ _ _ hr hs hT' hL' hk
  | scope c ih =>
    intro B Q Q' l T tmps w W h hT hL hf hQ
    refine wp_scope_straight (ih B _ _ l T tmps w W h hT hL hf (fun e l' t' T' w' W' hr hs hT' hL' hk => ?_))
    cases e with
    | goto i => exact hk.elim
    | _ => exact hQ _ _ _ _ _ _ hr hs hT' hL' hk
  | label i => exact fun B Q Q' l T tmps w W h hT hL hf hQ => wp_label (hQ _ _ _ _ _ _ h (.refl _ _) hT hL hf)
  | loop c ih =>
    intro B Q Q' l T tmps w W h hT hL hf hQ
    simp only [exec2] at hf
    split at hf
    · exact hf.elim
    · rename_i carried hcar
      obtain ⟨I, m, h0, hall⟩ := syncF_use hf hL
      have hb0 : ∀ x ∈ B ++ calm (delAll (touched c T) T.bs), x.2.m = 0 := fun x hx => by
        rcases List.mem_append.1 hx with hx | hx
        · exact hL.b0 x hx
        · exact (calm_mem hx).1
      have hsub0 : Loc z (blksOf (B ++ calm (delAll (touched c T) T.bs))) W W := (hL.anew (T' := ⟨calm (delAll (touched c T) T.bs), T.tg, T.sg, T.nx, false⟩) rfl).l
      refine wp_loop (fun a w' => ∃ t', a = { tmps := t', defers := [] } ∧ okL (carried.map (·.2)) (vsOf t' carried) = true ∧ Same (dsts c) tmps t' ∧ I (vsOf t' carried) w' ∧ Loc z (blksOf (B ++ calm (delAll (touched c T) T.bs))) w' w') (fun a w' => m (vsOf a.tmps carried) w') ?_ ?_
      · split at h0
        · rename_i vs hvs
          obtain ⟨h1, h2⟩ := readAll_ok h carried vs hvs
          subst h1
          exact ⟨tmps, rfl, h2, .refl _ _, h0, hsub0⟩
        · exact h0.elim
      · rintro a w' ⟨t', rfl, hok, hsame, hI, hLw⟩
        have hb := locF_use (allT_at _ _ hall _ hok w' hI) hLw
        refine ih _ _ _ _ _ t' w' w' (setAll_ok carried _ (forget_ok h hsame)) ?_ ?_ hb (fun e l' t'' T'' w'' W'' hr hs hT2 hL2 hk => ?_)
        · refine tag_untags (B := B ++ calm (delAll (touched c T) T.bs)) (T := ⟨[], T.tg, T.sg, T.nx, false⟩) (hT.of (fun x hx => ⟨hx, rfl⟩) (fun x hx => ⟨hx, rfl⟩) (fun x hx => ?_) (Nat.le_refl _)) hsame (fun i hi => List.mem_append.2 (.inl hi))
          rw [List.append_nil] at hx
          rcases List.mem_append.1 hx with hx | hx
          · exact ⟨x, List.mem_append.2 (.inl hx), rfl, rfl⟩
          · obtain ⟨_, y, hy, h2⟩ := calm_mem hx
            exact ⟨y, List.mem_append.2 (.inr (delAll_mem hy).1), h2⟩
        · refine ⟨?_, fun _ => rfl, hb0⟩
          show Loc z (blksOf (B ++ calm (delAll (touched c T) T.bs) ++ [])) w' w'
          rw [List.append_nil]; exact hLw
        cases e with
        | normal =>
          simp only at hk
          have hk := syncF_use hk hL2
          split at hk
          · rename_i vs' hvs
            obtain ⟨h1, h2⟩ := readAll_ok hr carried vs' hvs
            subst h1
            exact ⟨⟨t'', rfl, h2, (hsame.trans hs).mono (fun i hi => by simpa using hi), hk.1, loc_zero hL2.l (blks_sub (List.sublist_append_left _ _)) rfl (fun x hx => by obtain ⟨i, hi⟩ := mem_blks.1 hx; exact hb0 _ hi)⟩, hk.2⟩
          · exact hk.elim
        | _ => exact hQ _ _ _ _ _ _ hr ((hsame.trans hs).mono (fun i hi => by simpa [dsts] using hi)) (back hT2) (backL hL2) hk
  | _ => exact fun B Q Q' l T tmps w W h hT hL hf hQ => hf.elim
set_option maxRecDepth 512 in omit hp in
theorem resF2_ok {l : Fr} {T : Trk} {w W : World} {tmps : Array Value} (h : Rel l tmps) (hT : TagOK [] T tmps) (hL : LocD z [] T w W) : ∀ (rs : List ResultVar) (F : List Value → Prop), resF2 E z T l w rs F →
    ∃ vs, F vs ∧ (rs.mapM (resV tmps) : Sem (List Value)).run E.P W = .ok vs W
  | [], F, hf => ⟨[], hf, by simp⟩
  | .tmp t :: r, F, hf => by
    simp only [resF2] at hf
    split at hf
    · rename_i v hv
      have ev := rd_ok (ds := []) h (fun _ _ hm => by simp at hm) hv
      obtain ⟨vs, h1, h2⟩ := resF2_ok h hT hL r _ hf
      refine ⟨_, h1, ?_⟩
      have ev' : tmps.getD t undef = v := ev
      rw [List.mapM_cons, Sem.run_bind]
      show ((Result.ok (tmps.getD t undef) W).andThen _) = _
      rw [Result.andThen_ok, Sem.run_bind, h2, ev']
      rfl
    · exact hf.elim
  | .cell a t :: r, F, hf => by
    have fin : ∀ {b o : Nat} {agg : Bool} {n : Nat} {cs : List Value}, tmps.getD a undef = .pointer (some ⟨b, o, none⟩) → ldK E.P t = some (agg, n) → (cs.length == n) = true → At W b o cs → (resF2 E z T l w r fun vs => F (toV agg cs :: vs)) → ∃ vs, F vs ∧ ((.cell a t :: r).mapM (resV tmps) : Sem (List Value)).run E.P W = .ok vs W := by
      intro b o agg n cs ev' hk hlen hat hf
      have hl := run_loadVar' hk hlen hat
      obtain ⟨vs, h4, h5⟩ := resF2_ok h hT hL r _ hf
      refine ⟨_, h4, ?_⟩
      have hv' : (resV tmps (.cell a t)).run E.P W = .ok (toV agg cs) W := by
        simp only [resV, ev', asAddr]
        rw [Sem.run_bind]
        exact hl
      rw [List.mapM_cons, Sem.run_bind, hv', Result.andThen_ok, Sem.run_bind, h5]
      rfl
    simp only [resF2] at hf
    split at hf
    · rename_i v hl
      obtain ⟨b, off, agg, n, cs, h1, h2, h3, h4, rfl⟩ := trkLoad_ok hl hT hL.l
      exact fin h1 h2 h3 h4 hf
    · exact hf.elim
    · split at hf
      · rename_i p hv
        have ev := rd_ok (ds := []) h (fun _ _ hm => by simp at hm) hv
        unfold loadF at hf
        obtain ⟨b, o, h1, h2⟩ := nn_ex hf
        have h2 := h2 rfl
        subst h2
        split at h1
        · rename_i agg n ck hk hs
          obtain ⟨cs, h3⟩ := exT_ex _ _ h1
          split at h3
          · rename_i hlen
            exact fin ev hk hlen (AtF_at (syncF_use (gimp_true h3.1 rfl) hL)) h3.2
          · exact h3.elim
        · exact h1.elim
      · exact hf.elim
/-- FROM THE FORMULA TO THE CONTRACT. -/
theorem calls_of_exec2 {f : FuncId} {fn : Func} {c : Code} {args : List Value} {w : World} {R : Ending → World → Prop} (hf : E.P.funcs[f]? = some fn) (hb : fn.body = some c)
    (h : execR2 E fn.results.toList R c (initF args (fn.ntmps - args.length)) w) : Calls E.P f args.toArray w R := by
  refine calls_of_wp hf hb ?_
  have hi := initF_ok args (fn.ntmps - args.length)
  have hT0 : ∀ t : Array Value, TagOK [] ⟨[], [], [], 0, false⟩ t := fun t => ⟨(fun _ _ _ h => by cases h), (fun _ _ h => by cases h), (fun _ h => by cases h)⟩
  have hL0 : LocD w.heap.size [] ⟨[], [], [], 0, false⟩ w w := ⟨⟨.refl _ _, (fun _ h => by cases h), (fun _ h => by cases h), .nil, (fun _ h => by cases h), Nat.le_refl _⟩, fun _ => rfl, (fun _ h => by cases h)⟩
  have res : ∀ {t' : Array Value} {w' : World} {vs : List Value}, (fn.results.toList.mapM (resV t') : Sem (List Value)).run E.P w' = .ok vs w' → (results fn t').run E.P w' = .ok (retV vs) w' := fun {t' w' vs} h2 => by
    show (do let vs ← fn.results.mapM (resV t'); pure (if h : vs.size = 1 then vs[0] else .tuple vs) : Sem Value).run E.P w' = _
    rw [Sem.run_bind, Array.mapM_eq_mapM_toList, Sem.run_map, h2]
    show Result.ok (if h : vs.toArray.size = 1 then vs.toArray[0] else .tuple vs.toArray) w' = _
    match vs with
    | [] => rfl
    | [v] => rfl
    | a :: b :: r => simp [retV]
  unfold execR2 at h
  split at h
  · refine exec2_ok hp c [] _ _ _ _ _ w w (by simpa using hi) (hT0 _) hL0 h (fun e l' t' T' w' W' hr _ hT' hL' hq => ?_)
    have key : (resF2 E w.heap.size T' l' w' fn.results.toList fun vs => syncF w.heap.size [] T' w' fun W => R (.returned (retV vs)) W) → ∃ v, (results fn t').run E.P W' = .ok v W' ∧ R (.returned v) W' := fun hq => by
      obtain ⟨vs, h1, h2⟩ := resF2_ok hr hT' hL' _ _ hq
      exact ⟨retV vs, res h2, syncF_use h1 hL'⟩
    cases e with
    | normal => exact ⟨rfl, key hq⟩
    | ret => exact ⟨rfl, key hq⟩
    | _ => exact hq.elim
  · rename_i carried hcar
    obtain ⟨J, hex, hall⟩ := h
    have fin : ∀ (l' : Fr) (t' : Array Value) (w' : World), Rel l' t' → t'.size = (initF args (fn.ntmps - args.length)).length → (match readAll l' carried with | some vs => J vs w' | none => False) → ∃ v, (results fn t').run E.P w' = .ok v w' ∧ R (.returned v) w' := by
      intro l' t' w' hr hsz hq
      split at hq
      · rename_i vs hvs
        obtain ⟨h1, h2⟩ := readAll_ok hr carried vs hvs
        subst h1
        have hb := allT_at _ _ hall _ h2 w' hq
        obtain ⟨vs, h1, h2⟩ := resF_ok (tmps := t') (setAll_ok carried _ ⟨by simp [hsz], fun t s ht => by
          rw [List.getElem?_map] at ht
          cases hx : (initF args (fn.ntmps - args.length))[t]? with
          | none => simp [hx] at ht
          | some y => simp [hx] at ht; subst ht; trivial⟩) _ _ hb
        exact ⟨retV vs, res h2, h1⟩
      · exact hq.elim
    refine exec2_ok hp c [] _ _ _ _ _ w w (by simpa using hi) (hT0 _) hL0 hex (fun e l' t' T' w' W' hr hs hT' hL' hq => ?_)
    have hsz : t'.size = (initF args (fn.ntmps - args.length)).length := by
      rw [hs.size]
      simpa using hi.size
    cases e with
    | normal => exact ⟨rfl, fin l' t' W' hr hsz (syncF_use hq hL')⟩
    | ret => exact ⟨rfl, fin l' t' W' hr hsz (syncF_use hq hL')⟩
    | _ => exact hq.elim
end
theorem calls_of_exec2' {P : Program} {loops : List (Nat × List (Nat × Ck))} {pur : FuncId → List Value → Option (Option Prop × Value)} {tails : List (Nat × Nat)} {joins : List (Nat × List (Nat × Ck))} {boxes : List (Nat × Unit)} {rngs : List (Nat × TypeId)} {f : FuncId} {fn : Func} {c : Code} {args : List Value} {w : World} {R : Ending → World → Prop} {V : Prop}
    (hp : PurOK { P, loops, pur, tails, joins, boxes, rngs }) (hf : P.funcs[f]? = some fn) (hb : fn.body = some c)
    (e : execR2 { P, loops, pur, tails, joins, boxes, rngs } fn.results.toList R c (initF args (fn.ntmps - args.length)) w = V) (h : V) : Calls P f args.toArray w R :=
  calls_of_exec2 (E := { P, loops, pur, tails, joins, boxes, rngs }) hp hf hb (e.mpr h)

end Go.Proofs.YtgmmoghagpmpfaaGreatDoor

/- Lemmas on rows and strings in the memory. Generic: no program, no condition. -/
namespace Go.Proofs.YtgmmoghagpmpfaaGreatDoor
open Go.RowKit

/-- Strings that lie one behind the other. -/
def StrP (w : World) (p : Option Addr) (zs : List ByteArray) : Prop := ∀ j z, zs[j]? = some z → ∃ b o, p = some ⟨b, o, none⟩ ∧ w.cell? ⟨b, o + j, none⟩ = some (.string z)
theorem StrP.kp {M : Nat → Prop} {w w' : World} {p : Option Addr} {zs : List ByteArray} (h : StrP w p zs) (hk : Kp M w w') (hm : ∀ b o, p = some ⟨b, o, none⟩ → ¬ M b) : StrP w' p zs := fun j z hj => by
  obtain ⟨b, o, hp, hc⟩ := h j z hj
  exact ⟨b, o, hp, hk.cell' hc (hm b o hp)⟩
/-- A cell of a row. -/
theorem own_cellL {w : World} {base : Nat} {e : TypeId} {L n c : Nat} {p : Option Addr} {xs : List Value} (h : w.ownsRow base e L (.slice p n c) n xs) {i : Nat} {v : Value} (hv : xs[i]? = some v) : ∃ g, p = some ⟨g, 0, none⟩ ∧ w.cell? ⟨g, i, none⟩ = some v := by
  have hl := h.1
  have hi : i < xs.length := (List.getElem?_eq_some_iff.1 hv).1
  rcases h.2 with ⟨_, hn⟩ | ⟨g, cap, cur, he, _, hg, _, _, _, ht⟩
  · rw [hn, Nat.zero_mul] at hl; omega
  · simp only [Value.slice.injEq] at he
    refine ⟨g, he.1, ?_⟩
    rw [cell_block hg]
    rw [← ht, List.getElem?_take] at hv
    split at hv
    · rw [Array.getElem?_toList] at hv; exact hv
    · cases hv
theorem flat_get {α : Type} (f : α → List Value) (L : Nat) : ∀ (l : List α) (k : Nat) (x : α) (j : Nat), (∀ y ∈ l, (f y).length = L) → l[k]? = some x → j < L → (l.flatMap f)[k * L + j]? = (f x)[j]?
  | [], k, x, j, _, h, _ => by simp at h
  | y :: l, 0, x, j, hl, h, hj => by
    simp at h
    subst h
    rw [List.flatMap_cons, Nat.zero_mul, Nat.zero_add, List.getElem?_append_left (by rw [hl y (by simp)]; exact hj)]
  | y :: l, k + 1, x, j, hl, h, hj => by
    have hy := hl y (by simp)
    rw [List.flatMap_cons, List.getElem?_append_right (by rw [hy, Nat.succ_mul]; omega), hy]
    rw [show (k + 1) * L + j - L = k * L + j by rw [Nat.succ_mul]; omega]
    exact flat_get f L l k x j (fun z hz => hl z (by simp [hz])) (by simpa using h) hj
theorem own_base {w : World} {base base' : Nat} {e : TypeId} {size : Nat} {v : Value} {n : Nat} {xs : List Value} (h : w.ownsRow base e size v n xs) (hb : base' ≤ base) : w.ownsRow base' e size v n xs :=
  ⟨h.1, h.2.imp id fun ⟨g, cap, cur, a1, a2, a3⟩ => ⟨g, cap, cur, a1, Nat.le_trans hb a2, a3⟩⟩
theorem AtL.k0 {w w' : World} {b o : Nat} {cs : List Value} (h : AtL w b o cs) (hk : K0 w w') : AtL w' b o cs := by
  have key : ∀ (cs : List Value) (o : Nat), At w b o cs → At w' b o cs := by
    intro cs
    induction cs with
    | nil => intro o _; trivial
    | cons v r ih =>
      intro o h
      cases r with
      | nil => exact hk.cell' h (fun h => h)
      | cons u r => exact ⟨hk.cell' h.1 (fun h => h), ih (o + 1) h.2⟩
  exact ⟨key cs o h.h⟩
theorem nn_off {p : Option Addr} {K : Nat → Nat → Prop} (h : ∀ b o, K b o) : nn false p K := by
  match p with
  | none => exact ⟨rfl, h 0 0⟩
  | some ⟨b, o, none⟩ => exact h b o
  | some ⟨b, o, some x⟩ => exact ⟨rfl, h 0 0⟩
theorem own_le {w : World} {base : Nat} {e : TypeId} {size n c : Nat} {p : Option Addr} {xs : List Value} (h : w.ownsRow base e size (.slice p n c) n xs) : n ≤ c := by
  rcases h.2 with ⟨hv, hn⟩ | ⟨g, cap, cur, hv, _, _, hc, _⟩
  · omega
  · simp only [Value.slice.injEq, true_and] at hv
    rw [hv.2]; exact hc
theorem kp_grown {w w' : World} {row : Option Nat} (hg : w.grownBy w' row) : Kp (fun k => row = some k) w w' := (Kp.refl _ _).grown hg (fun _ hk => .inr hk)
theorem len_flat {α : Type} (f : α → List Value) (L : Nat) : ∀ (l : List α), (∀ y ∈ l, (f y).length = L) → (l.flatMap f).length = l.length * L
  | [], _ => by simp
  | y :: l, h => by
    rw [List.flatMap_cons, List.length_append, h y List.mem_cons_self, len_flat f L l (fun z hz => h z (List.mem_cons_of_mem _ hz)), List.length_cons, Nat.succ_mul]; omega

/-- An element of a row. -/
theorem own_at {α : Type} (f : α → List Value) {L : Nat} {w : World} {base : Nat} {e : TypeId} {p : Option Addr} {n c : Nat} {l : List α} (h : w.ownsRow base e L (.slice p n c) n (l.flatMap f)) (hl : ∀ y ∈ l, (f y).length = L) (h0 : 0 < L) {k : Nat} {y : α} (hy : l[k]? = some y) : ∃ g, p = some ⟨g, 0, none⟩ ∧ AtL w g (0 + k * L) (f y) := by
  have hyl := hl y (List.mem_of_getElem? hy)
  have key : ∀ j v, (f y)[j]? = some v → ∃ g, p = some ⟨g, 0, none⟩ ∧ w.cell? ⟨g, k * L + j, none⟩ = some v := fun j v hv => own_cellL h (by
    have hj : j < L := by rw [← hyl]; exact (List.getElem?_eq_some_iff.1 hv).1
    rw [flat_get f L l k y j hl hy hj]; exact hv)
  obtain ⟨g, hp, _⟩ := key 0 _ (List.getElem?_eq_getElem (by omega))
  refine ⟨g, hp, ⟨At_of _ _ fun j v hv => ?_⟩⟩
  obtain ⟨g', hp', hc⟩ := key j v hv
  rw [hp] at hp'
  simp only [Option.some.injEq, Addr.mk.injEq, and_true] at hp'
  subst hp'
  rw [Nat.zero_add]; exact hc
theorem AtL.left {w : World} {b o : Nat} {l1 l2 : List Value} (h : AtL w b o (l1 ++ l2)) : AtL w b o l1 :=
  ⟨At_of _ _ fun j v hv => At_get _ _ h.h j v (by rw [List.getElem?_append_left (List.getElem?_eq_some_iff.1 hv).1]; exact hv)⟩

end Go.Proofs.YtgmmoghagpmpfaaGreatDoor

/- What an argument that was read gives: its cells, strings of slices, bytes of arrays. Generic but for the types' numbers. No condition. -/
namespace Go.Proofs.YtgmmoghagpmpfaaGreatDoor
open Go.ChangeShapes Go.WideShapes Go.ChangeAt Go.RowKit Go.Deep

/-- Cells that were read as a value of a type. -/
def Rd {H : Type} (enc : TypeId × Value → H) (P : Program) (W : World) (t : TypeId) (cs : List Value) : Prop := ∃ (fuel : Nat) (x : DataW H × List MemPlace), DataW.trod enc P W 0 (fun _ => true) true fuel t cs = some x
section
variable {H : Type} {enc : TypeId × Value → H} {P : Program} {W : World} {t : TypeId} {cs : List Value}
theorem Rd.of {v : Value} {d : DataW H} {ps : List MemPlace} (h : DataW.Trod enc P W 0 (fun _ => true) true t v d ps) : Rd enc P W t v.cells.toList := by
  obtain ⟨fuel, h⟩ := h; exact ⟨fuel, _, h⟩
theorem Rd.field {fs : Array Field} (h : Rd enc P W t cs) (ht : P.underlying t = some (.struct fs)) {i : Nat} {f : Field} (hf : fs[i]? = some f) : Rd enc P W f.type ((cs.drop f.offset).take (P.cellsOf f.type)) := by
  obtain ⟨fuel, x, h⟩ := h
  obtain ⟨xs, n, _, _, _, hl, hg⟩ := DataW.trod_struct ht h
  have hi : i < xs.length := by rw [hl]; exact (Array.getElem?_eq_some_iff.1 hf).1
  exact ⟨n, xs[i], by rw [hg i f hf, List.getElem?_eq_getElem hi]⟩
theorem Rd.int {k : IntKind} (h : Rd enc P W t cs) (ht : P.underlying t = some (.int k)) : ∃ n, cs = [.int k n] ∧ (Lit.int k n).wf = true := by
  obtain ⟨fuel, x, h⟩ := h
  obtain ⟨n, h1, _, h2⟩ := DataW.trod_int ht h
  exact ⟨n, h1, h2⟩
theorem Rd.bool (h : Rd enc P W t cs) (ht : P.underlying t = some .bool) : ∃ b, cs = [.bool b] := by
  obtain ⟨fuel, x, h⟩ := h
  obtain ⟨b, h1, _⟩ := DataW.trod_bool ht h
  exact ⟨b, h1⟩
theorem Rd.str (h : Rd enc P W t cs) (ht : P.underlying t = some .string) : ∃ s : ByteArray, cs = [.string s] ∧ s.size ≤ 9223372036854775807 := by
  obtain ⟨fuel, x, h⟩ := h
  obtain ⟨s, h1, _, h2⟩ := DataW.trod_string ht h
  exact ⟨s, h1, h2⟩
/-- A slice that was read: its elements. -/
theorem Rd.slice {e : TypeId} (h : Rd enc P W t cs) (ht : P.underlying t = some (.slice e)) (hp : 0 < P.cellsOf e) : ∃ (p : Option Addr) (n c : Nat), cs = [.slice p n c] ∧ n ≤ c ∧ n ≤ 9223372036854775807 ∧
    ∀ i, i < n → ∃ (b o : Nat) (cs' : List Value), p = some ⟨b, o, none⟩ ∧ cs'.length = P.cellsOf e ∧ (∀ j v, cs'[j]? = some v → W.cell? ⟨b, o + i * P.cellsOf e + j, none⟩ = some v) ∧ Rd enc P W e cs' := by
  obtain ⟨fuel, x, h⟩ := h
  rcases open_slice ht h with ⟨h0, _⟩ | ⟨a, len, cap, m, nn, D, Pl, hcs, hb, hl, hm, hmm, hx, hi⟩
  · exact ⟨none, 0, 0, h0, by omega, by omega, fun i hi => by omega⟩
  · refine ⟨some a, len, cap, hcs, hl, by unfold maxLen at hm; omega, fun i hilt => ?_⟩
    have hmc : m = cap := by rw [hmm]; rfl
    obtain ⟨cs', hc, ht'⟩ := hi i (by omega)
    obtain ⟨_, hlen, hat⟩ := World.cells?_some hc
    have hspot : a.spot = none := by
      obtain ⟨cs0, hc0, _⟩ := hi 0 (by omega)
      obtain ⟨_, hl0, ha0⟩ := World.cells?_some hc0
      have h00 := ha0 0 hp
      rw [List.getElem?_eq_getElem (by omega)] at h00
      have := World.cell?_spot h00
      simpa [Addr.add] using this
    obtain ⟨b, o, sp⟩ := a
    simp only at hspot
    subst hspot
    refine ⟨b, o, cs', rfl, hlen, fun j v hj => ?_, nn, _, ht'⟩
    have hjl : j < P.cellsOf e := by have := (List.getElem?_eq_some_iff.1 hj).1; omega
    have := hat j hjl
    rw [addr_add2, hj] at this
    exact this
theorem arrI_ext (k : IntKind) (f : Nat → Int) : ∀ (n i : Nat) (cs : List Value), cs.length = n → (∀ j, j < n → cs[j]? = some (.int k (f (i + j)))) → cs = arrI k f n i
  | 0, i, [], _, _ => rfl
  | 0, i, _ :: _, h, _ => by simp at h
  | n + 1, i, [], h, _ => by simp at h
  | n + 1, i, c :: cs, h, hc => by
    have h0 := hc 0 (by omega)
    simp at h0
    simp only [arrI]
    rw [h0, ← arrI_ext k f n (i + 1) cs (by simpa using h) (fun j hj => by
      have := hc (j + 1) (by omega)
      rw [show i + 1 + j = i + (j + 1) by omega]
      simpa using this)]
/-- An array of numbers that was read. -/
theorem Rd.arr {n : Nat} {e : TypeId} {k : IntKind} (h : Rd enc P W t cs) (ht : P.underlying t = some (.array n e)) (he : P.underlying e = some (.int k)) (h1 : P.cellsOf e = 1) (hn : P.cellsOf t = n) : ∃ f : Nat → Int, cs = arrI k f n 0 := by
  obtain ⟨fuel, x, h⟩ := h
  obtain ⟨xs, m, _, _, hl, hxl, hg⟩ := DataW.trod_array ht h
  rw [hn] at hl
  have key : ∀ i, i < n → ∃ z : Int, cs[i]? = some (.int k z) := fun i hi => by
    have h2 := hg i hi
    rw [h1, List.getElem?_eq_getElem (by omega)] at h2
    obtain ⟨z, hz, _⟩ := DataW.trod_int he h2
    refine ⟨z, ?_⟩
    have : (cs.drop (i * 1)).take 1 = [cs[i]'(by omega)] := by
      rw [Nat.mul_one, List.drop_eq_getElem_cons (by omega)]; rfl
    rw [this] at hz
    simp at hz
    rw [List.getElem?_eq_getElem (by omega), hz]
  refine ⟨fun i => if h : i < n then Classical.choose (key i h) else 0, arrI_ext k _ n 0 cs hl (fun j hj => ?_)⟩
  rw [Nat.zero_add]
  simp only [hj, dif_pos]
  exact Classical.choose_spec (key j hj)
end

end Go.Proofs.YtgmmoghagpmpfaaGreatDoor

/- What an argument that was read gives, with its size: strings and slices have at most 2^47 - 4096 bytes. Generic. No condition. -/
namespace Go.Proofs.YtgmmoghagpmpfaaGreatDoor
open Go.ChangeShapes Go.WideShapes Go.ChangeAt Go.RowKit Go.Deep

theorem weightsAll_mem {H : Type} {P : Program} {e : TypeId} : ∀ {l : List (DataW H)} {d : DataW H}, d ∈ l → ∀ n ∈ d.weights P e, n ∈ DataW.weightsAll P e l
  | y :: l, d, hd, n, hn => by
    simp only [DataW.weightsAll, List.mem_append]
    rcases List.mem_cons.1 hd with rfl | h
    · exact .inl hn
    · exact .inr (weightsAll_mem h n hn)
/-- Cells that were read as a value of a type; no part is too great. -/
def Rw {H : Type} (enc : TypeId × Value → H) (P : Program) (W : World) (t : TypeId) (cs : List Value) : Prop := ∃ (fuel : Nat) (x : DataW H × List MemPlace), DataW.trod enc P W 0 (fun _ => true) true fuel t cs = some x ∧ ∀ n ∈ x.1.weights P t, n ≤ reachBytes
section
variable {H : Type} {enc : TypeId × Value → H} {P : Program} {W : World} {t : TypeId} {cs : List Value}
theorem Rw.rd (h : Rw enc P W t cs) : Rd enc P W t cs := by obtain ⟨f, x, h, _⟩ := h; exact ⟨f, x, h⟩
theorem Rw.of {v : Value} {d : DataW H} {ps : List MemPlace} {ts : List TypeId} {ds : List (DataW H)} (h : DataW.Trod enc P W 0 (fun _ => true) true t v d ps) (hz : (DataW.weightsEach P ts ds).all (· ≤ reachBytes) = true) (j : Nat) (ht : ts[j]? = some t) (hd : ds[j]? = some d) : Rw enc P W t v.cells.toList := by
  obtain ⟨fuel, h⟩ := h
  exact ⟨fuel, _, h, fun n hn => by simpa using List.all_eq_true.1 hz _ (DataW.weights_mem_each ht hd n hn)⟩
theorem Rw.field {fs : Array Field} (h : Rw enc P W t cs) (ht : P.underlying t = some (.struct fs)) {i : Nat} {f : Field} (hf : fs[i]? = some f) : Rw enc P W f.type ((cs.drop f.offset).take (P.cellsOf f.type)) := by
  obtain ⟨fuel, x, h, hw⟩ := h
  obtain ⟨xs, n, _, rfl, _, hl, hg⟩ := DataW.trod_struct ht h
  have hi : i < xs.length := by rw [hl]; exact (Array.getElem?_eq_some_iff.1 hf).1
  refine ⟨n, xs[i], by rw [hg i f hf, List.getElem?_eq_getElem hi], fun m hm => hw m ?_⟩
  simp only [DataW.weights, ht]
  refine DataW.weights_mem_each (j := i) (t := f.type) (d := xs[i].1) ?_ ?_ m hm
  · rw [List.getElem?_map, Array.getElem?_toList, hf]; rfl
  · rw [List.getElem?_map, List.getElem?_eq_getElem hi]; rfl
theorem Rw.int64 (h : Rw enc P W t cs) (ht : P.underlying t = some (.int .i64)) : ∃ n : Int, cs = [.int .i64 n] ∧ -9223372036854775808 ≤ n ∧ n ≤ 9223372036854775807 := by
  obtain ⟨n, h1, h2⟩ := h.rd.int ht
  have : IntKind.i64.min ≤ n ∧ n ≤ IntKind.i64.max := by simpa [Lit.wf] using h2
  exact ⟨n, h1, this⟩
theorem Rw.bool (h : Rw enc P W t cs) (ht : P.underlying t = some .bool) : ∃ b, cs = [.bool b] := h.rd.bool ht
theorem Rw.str (h : Rw enc P W t cs) (ht : P.underlying t = some .string) : ∃ s : ByteArray, cs = [.string s] ∧ s.size ≤ 140737488351232 := by
  obtain ⟨fuel, x, h, hw⟩ := h
  obtain ⟨s, h1, rfl, _⟩ := DataW.trod_string ht h
  refine ⟨s, h1, ?_⟩
  have := hw s.data.toList.length (by simp [DataW.weights])
  simpa [reachBytes] using this
/-- A slice that was read: its elements. -/
theorem Rw.slice {e : TypeId} (h : Rw enc P W t cs) (ht : P.underlying t = some (.slice e)) (hp : 0 < P.cellsOf e) : ∃ (p : Option Addr) (n c : Nat), cs = [.slice p n c] ∧ n ≤ c ∧ c * P.bytesOf e ≤ 140737488351232 ∧ c ≤ 9223372036854775807 ∧
    ∀ i, i < n → ∃ (b o : Nat) (cs' : List Value), p = some ⟨b, o, none⟩ ∧ cs'.length = P.cellsOf e ∧ (∀ j v, cs'[j]? = some v → W.cell? ⟨b, o + i * P.cellsOf e + j, none⟩ = some v) ∧ Rw enc P W e cs' := by
  obtain ⟨fuel, x, h, hw⟩ := h
  rcases open_slice ht h with ⟨h0, _⟩ | ⟨a, len, cap, m, nn, D, Pl, hcs, hb, hl, hm, hmm, rfl, hi⟩
  · exact ⟨none, 0, 0, h0, by omega, by omega, by omega, fun i hi => by omega⟩
  · have hmc : m = cap := by rw [hmm]; rfl
    have hwt := hw ((len + (m - len)) * P.bytesOf e) (by simp [DataW.weights, ht])
    rw [hmc, show len + (cap - len) = cap by omega] at hwt
    refine ⟨some a, len, cap, hcs, hl, by simpa [reachBytes] using hwt, by unfold maxLen at hm; omega, fun i hilt => ?_⟩
    obtain ⟨cs', hc, ht'⟩ := hi i (by omega)
    obtain ⟨_, hlen, hat⟩ := World.cells?_some hc
    have hspot : a.spot = none := by
      obtain ⟨cs0, hc0, _⟩ := hi 0 (by omega)
      obtain ⟨_, hl0, ha0⟩ := World.cells?_some hc0
      have h00 := ha0 0 hp
      rw [List.getElem?_eq_getElem (by omega)] at h00
      have := World.cell?_spot h00
      simpa [Addr.add] using this
    obtain ⟨b, o, sp⟩ := a
    simp only at hspot
    subst hspot
    refine ⟨b, o, cs', rfl, hlen, fun j v hj => ?_, nn, _, ht', fun k hk => hw k ?_⟩
    · have hjl : j < P.cellsOf e := by have := (List.getElem?_eq_some_iff.1 hj).1; omega
      have := hat j hjl
      rw [addr_add2, hj] at this
      exact this
    · simp only [DataW.weights, ht, List.mem_cons, List.mem_append]
      exact .inr (.inl (weightsAll_mem (List.mem_map.2 ⟨i, List.mem_range.2 hilt, rfl⟩) k hk))
/-- An array of bytes that was read. -/
theorem Rw.bytes {n : Nat} {e : TypeId} (h : Rw enc P W t cs) (ht : P.underlying t = some (.array n e)) (he : P.underlying e = some (.int .u8)) (h1 : P.cellsOf e = 1) (hn : P.cellsOf t = n) : ∃ f : Nat → Int, cs = arrI .u8 f n 0 ∧ ∀ j, 0 ≤ f j ∧ f j ≤ 255 := by
  obtain ⟨fuel, x, h, _⟩ := h
  obtain ⟨xs, m, _, _, hl, hxl, hg⟩ := DataW.trod_array ht h
  rw [hn] at hl
  have key : ∀ i, i < n → ∃ z : Int, cs[i]? = some (.int .u8 z) ∧ 0 ≤ z ∧ z ≤ 255 := fun i hi => by
    have h2 := hg i hi
    rw [h1, List.getElem?_eq_getElem (by omega)] at h2
    obtain ⟨z, hz, _, hw⟩ := DataW.trod_int he h2
    refine ⟨z, ?_, ?_⟩
    · have : (cs.drop (i * 1)).take 1 = [cs[i]'(by omega)] := by
        rw [Nat.mul_one, List.drop_eq_getElem_cons (by omega)]; rfl
      rw [this] at hz
      simp at hz
      rw [List.getElem?_eq_getElem (by omega), hz]
    · have : IntKind.u8.min ≤ z ∧ z ≤ IntKind.u8.max := by simpa [Lit.wf] using hw
      exact this
  refine ⟨fun i => if h : i < n then Classical.choose (key i h) else 0, arrI_ext .u8 _ n 0 cs hl (fun j hj => ?_), fun j => ?_⟩
  · rw [Nat.zero_add]
    simp only [hj, dif_pos]
    exact (Classical.choose_spec (key j hj)).1
  · by_cases h : j < n
    · simp only [h, dif_pos]; exact (Classical.choose_spec (key j h)).2
    · simp only [h, dif_neg, not_false_iff]; omega
end

end Go.Proofs.YtgmmoghagpmpfaaGreatDoor

/- Plain tests of bytes. No program in sight. -/
namespace Go.Proofs.YtgmmoghagpmpfaaGreatDoor
open Go.RowKit

def digitB (c : Int) : Bool := decide (48 ≤ c) && decide (c ≤ 57)
end Go.Proofs.YtgmmoghagpmpfaaGreatDoor

/- Plain functions on texts (no program in sight): the tests of characters, the errors of a site's name, searches for a first index. No condition. -/
namespace Go.Proofs.YtgmmoghagpmpfaaGreatDoor

theorem at8_lt (s : ByteArray) (k : Nat) (h : k < s.size) : at8 s k = (s[k].toNat : Int) := by simp [at8, h]
theorem at8_bd (s : ByteArray) (k : Nat) : 0 ≤ at8 s k ∧ at8 s k ≤ 255 := by
  unfold at8
  split
  · have := s[k].toNat_lt; omega
  · omega

theorem toList_nil (s : ByteArray) : (s.toList == []) = decide (s.size = 0) := by
  have h : s.toList.length = s.size := by rw [ByteArray.toList_eq]; exact s.data.length_toList
  cases hs : s.toList with
  | nil => rw [hs] at h; have h : s.size = 0 := h.symm; rw [h]; rfl
  | cons a r =>
    rw [hs] at h
    have h : s.size = r.length + 1 := h.symm
    have : ¬ s.size = 0 := by omega
    rw [decide_eq_false this]
    rfl
/-- A loop that counts a slot from 0 up to n. -/
theorem count1 {w : World} {F : (List Value → World → Prop) → (List Value → World → Nat) → Int → World → Prop} (n : Nat) (hn : (n : Int) ≤ 9223372036854775807) (J : Nat → World → Prop) (h0 : J 0 w)
    (step : ∀ (I : List Value → World → Prop) (m : List Value → World → Nat) (k : Nat) (w' : World), k ≤ n → J k w' →
      (k < n → ∀ w'', J (k + 1) w'' → I [.int .i64 (IntKind.i64.wrap (k + 1))] w'' ∧ m [.int .i64 (IntKind.i64.wrap (k + 1))] w'' < m [.int .i64 k] w') → F I m k w') :
    ∃ (I : List Value → World → Prop) (m : List Value → World → Nat), I [.int .i64 0] w ∧ ∀ (x : Int) (w' : World), I [.int .i64 x] w' → F I m x w' := by
  refine ⟨fun vs w' => ∃ k : Nat, vs = [.int .i64 k] ∧ k ≤ n ∧ J k w', fun vs _ => (match vs with | [.int _ x] => n - x.toNat | _ => 0), ⟨0, rfl, by omega, h0⟩, fun x w' ⟨k, hv, hk, hJ⟩ => ?_⟩
  have hx : x = (k : Int) := by simpa using hv
  subst hx
  refine step _ _ k w' hk hJ (fun hlt w'' hJ' => ?_)
  rw [show IntKind.i64.wrap ((k : Int) + 1) = ((k + 1 : Nat) : Int) from by rw [wr64 (by omega) (by omega)]; omega]
  exact ⟨⟨k + 1, rfl, by omega, hJ'⟩, by simp; omega⟩

end Go.Proofs.YtgmmoghagpmpfaaGreatDoor

/- Rows of elements that can be read. Generic: no program, no condition. -/
namespace Go.Proofs.YtgmmoghagpmpfaaGreatDoor
open Go.RowKit

/-- Elements that lie one behind the other. -/
def RowA {α : Type} (f : α → List Value) (L : Nat) (w : World) (p : Option Addr) (l : List α) : Prop := ∀ k y, l[k]? = some y → ∃ b o, p = some ⟨b, o, none⟩ ∧ AtL w b (o + k * L) (f y)
section
variable {α : Type} {f : α → List Value} {L : Nat} {w w' : World} {p : Option Addr} {l : List α}
theorem RowA.k0 (h : RowA f L w p l) (hk : K0 w w') : RowA f L w' p l := fun k y hy => by
  obtain ⟨b, o, h1, h2⟩ := h k y hy
  exact ⟨b, o, h1, h2.k0 hk⟩
theorem RowA.get (h : RowA f L w p l) {k : Nat} (hk : k < l.length) : ∃ y b o, l[k]? = some y ∧ p = some ⟨b, o, none⟩ ∧ AtL w b (o + k * L) (f y) := by
  obtain ⟨y, hy⟩ : ∃ y, l[k]? = some y := ⟨_, List.getElem?_eq_getElem hk⟩
  obtain ⟨b, o, h1, h2⟩ := h k y hy
  exact ⟨y, b, o, hy, h1, h2⟩
theorem RowA.own {base : Nat} {e : TypeId} {n c : Nat} (h : w.ownsRow base e L (.slice p n c) n (l.flatMap f)) (hl : ∀ y, (f y).length = L) (h0 : 0 < L) : RowA f L w p l := fun k y hy => by
  obtain ⟨g, h1, h2⟩ := own_at f h (fun y _ => hl y) h0 hy
  exact ⟨g, 0, h1, h2⟩
theorem RowA.nil : RowA f L w p [] := fun k y hy => by simp at hy
end
theorem AtL.cell {w : World} {b o : Nat} {cs : List Value} (h : AtL w b o cs) {j : Nat} {v : Value} (hj : cs[j]? = some v) : w.cell? ⟨b, o + j, none⟩ = some v := At_get _ _ h.h j v hj
theorem AtL.one {w : World} {b o : Nat} {v : Value} (h : AtL w b o [v]) : w.cell? ⟨b, o, none⟩ = some v := by simpa using h.cell (j := 0) rfl
theorem StrP.get {w : World} {p : Option Addr} {zs : List ByteArray} (h : StrP w p zs) {k : Nat} (hk : k < zs.length) : ∃ z b o, zs[k]? = some z ∧ p = some ⟨b, o, none⟩ ∧ w.cell? ⟨b, o + k, none⟩ = some (.string z) := by
  obtain ⟨y, hy⟩ : ∃ y, zs[k]? = some y := ⟨_, List.getElem?_eq_getElem hk⟩
  obtain ⟨b, o, h1, h2⟩ := h k y hy
  exact ⟨y, b, o, hy, h1, h2⟩
theorem StrP.k0 {w w' : World} {p : Option Addr} {zs : List ByteArray} (h : StrP w p zs) (hk : K0 w w') : StrP w' p zs := h.kp hk (fun _ _ _ h => h)
theorem inc64 {i : Nat} (h : i < 9223372036854775807) : IntKind.i64.wrap ((i : Int) + 1) = ((i + 1 : Nat) : Int) := by rw [wr64 (by omega) (by omega)]; omega
theorem take_snoc {α : Type} {l : List α} {i : Nat} {x : α} (h : l[i]? = some x) : l.take (i + 1) = l.take i ++ [x] := by rw [List.take_add_one, h]; rfl
/-- A block of the function's own is written. -/
theorem put_k0 {w w1 w2 : World} {b o : Nat} {cs : List Value} (h : K0 w w1) (hp : PutB w1 b o cs w2) (hb : w.heap.size ≤ b) : K0 w w2 := Kp.fresh h hp.kp (fun i hi e => by omega)
theorem put_kept {w1 w2 : World} {b o : Nat} {cs : List Value} {l : List Nat} (hp : PutB w1 b o cs w2) (hb : ∀ n ∈ l, n ≠ b) : KeptL l w1 w2 := .of_kp hp.kp (fun n hn e => hb n hn e)
theorem PutB.blk {w1 w2 : World} {b o : Nat} {cs : List Value} (hp : PutB w1 b o cs w2) {n : Nat} {x : Obj} (h : w1.heap[n]? = some x) (hb : n ≠ b) : w2.heap[n]? = some x := hp.kp.blk h (fun e => hb e)
end Go.Proofs.YtgmmoghagpmpfaaGreatDoor
