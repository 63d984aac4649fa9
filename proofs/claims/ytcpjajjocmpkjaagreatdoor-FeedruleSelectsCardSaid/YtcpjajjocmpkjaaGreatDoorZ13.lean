/- The symbolic evaluator, tenth part: from a formula with own blocks to the contract. Generic: no program, no condition. -/
import Derived.Test.YtcpjajjocmpkjaaGreatDoorZ12
import Derived.Test.YtcpjajjocmpkjaaGreatDoorProg
import Derived.Test.YtcpjajjocmpkjaaGreatDoorZ02
import Derived.Test.YtcpjajjocmpkjaaGreatDoorZ04
import Derived.KernelRfl
import Derived.Test.YtcpjajjocmpkjaaGreatDoorZ11
import Derived.Sort.Walk0
namespace Go.Proofs.YtcpjajjocmpkjaaGreatDoor
open Go.RowKit

theorem loc_add {z : Nat} {B l : Bs} {i : Nat} {b : Blk} {w W : World} (h : Loc z (b :: blksOf (B ++ l)) w W) : Loc z (blksOf (B ++ (i, b) :: l)) w W := by
  refine h.perm ?_
  rw [blksOf_eq, blksOf_eq]
  simp only [List.map_append, List.map_cons]
  exact List.perm_middle.symm
theorem add_bs (T : Trk) (b : Blk) (dst : Option Nat) : (T.add b dst).bs = (T.nx, b) :: T.bs := by unfold Trk.add; split <;> rfl
theorem addS_bs (T : Trk) (b : Blk) (dst : Option Nat) : (T.addS b dst).bs = (T.nx, b) :: T.bs := by unfold Trk.addS; split <;> rfl
theorem trkApp_ok {E : Env} {B : Bs} {T : Trk} {l : Fr} {o : Oper} {t : Array Value} {z : Nat} {w W : World} {e : TypeId} {x : Operand} {p : Option Addr} {n c m id : Nat} {news : List Value} (ha : trkApp E B T l o.op = some (e, x, p, n, c, news, m, id)) (h : Rel l t) (hT : TagOK B T t) (hL : LocD z B T w W)
    {K : Fr → Trk → World → Prop} (hf : app2F E z B o l T w e p n c news m id K) : seqF0 E o none l W fun l' w' => keptF (numsOf (B ++ ((T.drop [id]).untag o.dst).bs)) W w' (K l' ((T.drop [id]).untag o.dst) w') := by
  obtain ⟨dst, op, ty, pos, aft, gd⟩ := o
  unfold trkApp at ha
  simp only at ha
  split at ha
  · rename_i args argTypes
    split at ha
    · rename_i x' s tt tt' hargs htys
      split at ha
      · rename_i id' htt hid
        split at ha
        · rename_i b p' n' c' q m' c2 e' hb hx hy hu
          split at ha
          · rename_i i hi
            split at ha
            · rename_i zv hz
              split at ha
              · rename_i hcond
                simp at ha
                obtain ⟨rfl, rfl, rfl, rfl, rfl, rfl, rfl, rfl⟩ := ha
                simp only [Bool.and_eq_true, beq_iff_eq] at hcond
                obtain ⟨h1, h2, h3, h4⟩ := hcond
                obtain ⟨base, xs, ho, hle, hby, hbase, hk⟩ := syncF_use hf hL
                have hm := lookB_mem hb
                have hbk := hL.l.blk b (mem_blks.2 ⟨id', hm⟩)
                obtain ⟨m2, c3, hq⟩ := (hT.s s id' (findN_mem hid)).2 b hm
                have ey : t.getD s undef = .slice q m' c2 := rd_ok (ds := []) h (fun _ _ hm => by simp at hm) hy
                rw [hq] at ey
                simp only [Value.slice.injEq] at ey
                obtain ⟨rfl, rfl, rfl⟩ := ey
                have hsz : szB E.P e' = (i.size, i.bytes) := by unfold szB; rw [hi]
                rw [hsz] at ho hby
                unfold seqF0
                simp only [hargs, htys, htt]
                unfold appendO
                rw [hx, hy]
                simp only [hu, hi, hz, h1, h2, beq_self_eq_true, Bool.true_and]
                refine ⟨base, xs, b.cs, ho, h3, ?_, hle, hby, hbase, fun p' c' w' ho' hg => ?_⟩
                · have := src_block hbk (fun u hu => by
                    have := List.all_eq_true.1 h4 u (by simpa using hu)
                    exact this)
                  simpa using this
                · have := hk p' c' w' (by rw [hsz]; exact ho') hg
                  exact this
              · cases ha
            · cases ha
          · cases ha
        · cases ha
      · cases ha
    · cases ha
  · cases ha

section
variable {E : Env} (hp : PurOK E) {ops : Array Oper} {z : Nat} {B : Bs} include hp
theorem seqF2_ok {o : Oper} {l : Fr} {T : Trk} {w W : World} {tmps : Array Value} {K : Fr → Trk → World → Prop} {N : Act → World → Prop} {Q : Exit → Act → World → Prop} (h : Rel l tmps) (hT : TagOK B T tmps) (hL : LocD z B T w W) (hf : seqF2 E z B ops o l T w K)
    (hK : ∀ l' tmps' T' w' W', Rel l' tmps' → Same o.dst.toList tmps tmps' → TagOK B T' tmps' → LocD z B T' w' W' → K l' T' w' → N { tmps := tmps', defers := [] } W') : stepG' E.P ops o { tmps, defers := [] } W N Q := by
  have hLu : ∀ {T : Trk} {w W : World}, LocD z B T w W → LocD z B (T.untag o.dst) w W := fun {T w W} hL => ⟨by unfold allB; rw [untag_bs]; exact hL.l, by unfold Trk.untag; split <;> exact hL.d, hL.b0⟩
  unfold seqF2 at hf
  cases hc : ctxOf ops o with
  | none => rw [hc] at hf; exact hf.elim
  | some ctx =>
    rw [hc] at hf
    simp only at hf
    have hwo := wanted_ok (tmps := tmps) hc
    have yes : ∀ {l' : Fr}, Rel l' tmps → Chain tmps (chain l 12 ctx).reverse → Region.wanted o (yielded ops tmps) = true := fun {l'} _ h3 => hwo.2 (by
      cases ctx with
      | none => trivial
      | some jw => exact h3 jw.1 jw.2 (by simp [chain]))
    have no : ∀ {l' : Fr}, Rel l' tmps → ¬ Chain tmps (chain l 12 ctx).reverse → K (putF l' o.dst (.v undef)) (T.untag o.dst) w → stepG' E.P ops o { tmps, defers := [] } W N Q := fun {l'} h1 h3 h2 => by
      have hW : ¬ Wants tmps ctx := fun hW => h3 fun i b hm => chain_ok h 12 ctx hW i b (by simpa using hm)
      have hw : Region.wanted o (yielded ops tmps) = false := by
        cases hw : Region.wanted o (yielded ops tmps) with
        | true => exact absurd (hwo.1 hw) hW
        | false => rfl
      unfold stepG'
      rw [if_neg (by simp [hw]), put_act]
      exact hK _ _ _ _ _ (h1.fin (ctx := none) (fun _ => rfl) (fun hn => absurd trivial hn)) (.put tmps o.dst _) (hT.put (.put _ _ _)) (hLu hL) h2
    have val : ∀ {l' : Fr} {v : Value} {T' : Trk} {w' W' : World}, Rel l' tmps → Region.wanted o (yielded ops tmps) = true → (execOp ({ tmps, defers := [] } : Act).eval o).run E.P W = .ok (.value v) W' → TagOK B T' (({ tmps, defers := [] } : Act).put o.dst v).tmps → LocD z B T' w' W' → K (putF l' o.dst (.v v)) T' w' → stepG' E.P ops o { tmps, defers := [] } W N Q := by
      intro l' v T' w' W' h1 hw hrun hT' hL' hk
      unfold stepG'
      rw [if_pos hw]
      refine .inl ?_
      unfold Oper.wp
      rw [hrun]
      show N (({ tmps, defers := [] } : Act).put o.dst v) W'
      rw [put_act]
      exact hK _ _ _ _ _ (h1.fin (ctx := none) (fun _ => rfl) (fun hn => absurd trivial hn)) (.put tmps o.dst v) hT' hL' hk
    split at hf
    · rename_i hnew
      rcases splitG_ok _ l h hf with ⟨l', h1, h2, h3⟩ | ⟨l', h1, h2, h3⟩
      · have hw := yes h1 h3
        split at h2
        · rename_i hi
          obtain ⟨T1, w1, h4, hT1, hL1⟩ := dropF_ok h2 hT hL
          unfold new2 at h4
          split at h4
          · rename_i t hop
            split at h4
            · rename_i v hv
              have hrun : (execOp ({ tmps, defers := [] } : Act).eval o).run E.P W = .ok (.value (.pointer (some ⟨W.heap.size, 0, none⟩))) (W.alloc (.cells v.cells t)) := by
                have := run_alloc2 (w := W) hv
                unfold execOp
                rw [hop]
                simp [this]
              refine val h1 hw hrun (tag_add (b := ⟨W.heap.size, t, v.cells.toList, 2⟩) h1 hi hT1) ?_ (h4 W.heap.size)
              refine ⟨?_, by unfold Trk.add; split <;> exact (fun h => by cases h), hL1.b0⟩
              unfold allB; rw [add_bs]
              exact loc_add (loc_new hL1.l t v.cells)
            · exact h4.elim
          · rename_i t x hop
            split at h4
            · rename_i v hv
              have ev := rd_ok (ds := []) h1 (fun _ _ hm => by simp at hm) hv
              have hrun : (execOp ({ tmps, defers := [] } : Act).eval o).run E.P W = .ok (.value (.pointer (some ⟨W.heap.size, 0, none⟩))) (W.alloc (.cells v.cells t)) := by
                have := run_box2 (P := E.P) (w := W) (t := t) (v := v)
                unfold execOp
                rw [hop]
                simp only [ev]
                simp [this]
              refine val h1 hw hrun (tag_add (b := ⟨W.heap.size, t, v.cells.toList, 2⟩) h1 hi hT1) ?_ (h4 W.heap.size)
              refine ⟨?_, by unfold Trk.add; split <;> exact (fun h => by cases h), hL1.b0⟩
              unfold allB; rw [add_bs]
              exact loc_add (loc_new hL1.l t v.cells)
            · exact h4.elim
          · rename_i t len parts hop
            split at h4
            · rename_i e cells ha hrow
              have hrun : (execOp ({ tmps, defers := [] } : Act).eval o).run E.P W = .ok (.value (.slice (some ⟨W.heap.size, 0, none⟩) len len)) (W.alloc (.cells cells e)) := by
                have hcg : execOp ({ tmps, defers := [] } : Act).eval o = execOp (rdV l' []) o := execOp_congr o (by simp [hop]) (fun x hx => by
                  unfold allRd at ha
                  exact rdV_ok h1 (fun _ _ hm => by simp at hm) (List.all_eq_true.1 ha x (by simpa using hx)))
                have := run_slice2 (w := W) hrow
                rw [hcg]
                unfold execOp
                rw [hop]
                simp [this]
              refine val h1 hw hrun (tag_addS (b := ⟨W.heap.size, e, cells.toList, 2⟩) h1 hi hT1) ?_ (h4 W.heap.size)
              refine ⟨?_, by unfold Trk.addS; split <;> exact (fun h => by cases h), hL1.b0⟩
              unfold allB; rw [addS_bs]
              exact loc_add (loc_new hL1.l e cells)
            · exact h4.elim
          · exact h4.elim
        · exact h2.elim
      · exact no h1 h3 h2
    · split at hf
      · rcases splitG_ok _ l h hf with ⟨l', h1, h2, h3⟩ | ⟨l', h1, h2, h3⟩
        · have hw := yes h1 h3
          split at h2
          · rename_i T' hst
            obtain ⟨W', hrun, hT', hL'⟩ := trkStore_ok hst h1 hT hL
            obtain ⟨T1, w1, h4, hT1, hL1⟩ := dropF_ok h2 hT' hL'
            unfold stepG'
            rw [if_pos hw]
            refine .inl ?_
            unfold Oper.wp
            rw [hrun]
            show N (({ tmps, defers := [] } : Act).put o.dst undef) W'
            rw [put_act]
            exact hK _ _ _ _ _ (h1.fin (ctx := none) (fun _ => rfl) (fun hn => absurd trivial hn)) (.put tmps o.dst _) (hT1.put (.put _ _ _)) (hLu hL1) h4
          · exact h2.elim
        · exact no h1 h3 h2
      · split at hf
        · rename_i hcn happ
          have hcn := isNone_eq hcn
          subst hcn
          refine seqF0_ok hp (ctx := none) hwo h (trkApp_ok happ h hT hL hf) (fun l' t' w' hr hs hk => ?_)
          obtain ⟨hsz, hkp, hk⟩ := keptF_ok hk
          refine hK l' t' _ w' w' hr hs ((hT.drop _).put hs) (hL.eff (by rw [untag_bs]; rfl) hsz hkp) hk
        · split at hf
          · obtain ⟨v, l', T', w', h1, h2, hT', hL', h3⟩ := still2_ok hp h hT hL hwo (ctx_guard hc) hf
            have next : N (({ tmps, defers := [] } : Act).put o.dst v) W := by
              rw [put_act]; exact hK l' _ T' w' W h2 (.put tmps o.dst v) hT' hL' h1
            unfold stepG'
            rcases h3 with ⟨hw, hy⟩ | ⟨hw, rfl⟩
            · rw [if_pos hw]
              refine .inl ?_
              unfold Oper.wp
              rcases hy with hy | ⟨_, f, args, hy, hcall⟩
              · rw [hy]; exact next
              · rw [hy]
                exact hcall.mono fun e w' ⟨he, hw'⟩ => by subst he; subst hw'; exact next
            · rw [if_neg (by simp [hw])]
              exact next
          · refine seqF_ok hp h (syncF_use hf hL) (fun l' t' w' hr hs hk => ?_)
            obtain ⟨hsz, hkp, hk⟩ := keptF_ok hk
            refine hK l' t' _ w' w' hr hs ((hT.drop _).put hs) (hL.eff (by rw [untag_bs]; rfl) hsz hkp) hk
theorem seqOps2_ok {K : Fr → Trk → World → Prop} {Q : Exit → Act → World → Prop} : ∀ (r : List Oper) (l : Fr) (T : Trk) (w W : World) (tmps : Array Value), Rel l tmps → TagOK B T tmps → LocD z B T w W → seqOps2 E z B ops K r l T w →
    (∀ l' tmps' T' w' W', Rel l' tmps' → Same (r.filterMap (·.dst)) tmps tmps' → TagOK B T' tmps' → LocD z B T' w' W' → K l' T' w' → Q .normal { tmps := tmps', defers := [] } W') → wpList E.P ops Q r { tmps, defers := [] } W
  | [], l, T, w, W, tmps, h, hT, hL, hf, hQ => hQ l tmps T w W h (.refl _ _) hT hL hf
  | o :: r, l, T, w, W, tmps, h, hT, hL, hf, hQ => by
    show stepG' E.P ops o { tmps, defers := [] } W (wpList E.P ops Q r) Q
    refine seqF2_ok hp h hT hL hf (fun l' tmps' T' w' W' hr hs hT' hL' hk => seqOps2_ok r l' T' w' W' tmps' hr hT' hL' hk (fun l'' t'' T'' w'' W'' hr' hs' hT2 hL2 hk' => hQ l'' t'' T'' w'' W'' hr' ?_ hT2 hL2 hk'))
    refine (hs.trans hs').mono fun i hi => ?_
    rcases List.mem_append.1 hi with hi | hi
    · cases hd : o.dst with
      | none => simp [hd] at hi
      | some d => simp [hd] at hi; simp [hd, hi]
    · cases hd : o.dst with
      | none => simpa [hd] using hi
      | some d => simp only [List.filterMap_cons, hd, List.mem_cons]; exact .inr hi
omit hp in
theorem tag_untags {T : Trk} {t t' : Array Value} {ds es : List Nat} (h : TagOK B T t) (hs : Same ds t t') (he : ∀ i ∈ ds, i ∈ es) : TagOK B (T.untags es) t' :=
  h.of (fun x hx => by obtain ⟨h1, h2⟩ := delAll_mem hx; exact ⟨h1, hs.at_ _ (fun hd => h2 (he _ hd))⟩) (fun x hx => by obtain ⟨h1, h2⟩ := delAll_mem hx; exact ⟨h1, hs.at_ _ (fun hd => h2 (he _ hd))⟩) (fun x hx => ⟨x, hx, rfl, rfl⟩) (Nat.le_refl _)
omit hp in
theorem locF_use {L : List Blk} {w : World} {X : Prop} (hf : locF z L w X) (hL : Loc z L w w) : X := by
  unfold locF at hf
  split at hf
  · exact hf
  · exact hf hL
end
section
variable {E : Env} (hp : PurOK E) {z : Nat} include hp
theorem exec2_ok (c : Code) : ∀ (B : Bs) (Q : Exit → Fr → Trk → World → Prop) (Q' : Exit → Act → World → Prop) (l : Fr) (T : Trk) (tmps : Array Value) (w W : World), Rel l tmps → TagOK B T tmps → LocD z B T w W → exec2 E z c B Q l T w →
    (∀ e l' tmps' T' w' W', Rel l' tmps' → Same (dsts c) tmps tmps' → TagOK B T' tmps' → LocD z B T' w' W' → Q e l' T' w' → Q' e { tmps := tmps', defers := [] } W') → c.wp E.P Q' { tmps, defers := [] } W := by
  have back : ∀ {B keep : Bs} {T' : Trk} {t : Array Value}, TagOK (B ++ keep) T' t → TagOK B ⟨keep ++ T'.bs, T'.tg, T'.sg, T'.nx, T'.d⟩ t := fun h => h.of (fun x hx => ⟨hx, rfl⟩) (fun x hx => ⟨hx, rfl⟩) (fun x hx => ⟨x, by simpa [List.append_assoc] using hx, rfl, rfl⟩) (Nat.le_refl _)
  have backL : ∀ {B keep : Bs} {T' : Trk} {w W : World}, LocD z (B ++ keep) T' w W → LocD z B ⟨keep ++ T'.bs, T'.tg, T'.sg, T'.nx, T'.d⟩ w W := fun h => ⟨by have := h.l; unfold allB at this ⊢; simpa [List.append_assoc] using this, h.d, fun x hx => h.b0 x (List.mem_append.2 (.inl hx))⟩
  have hso : ∀ {B : Bs} {T : Trk} {w W : World}, LocD z B T w W → LocD z B T.soil w W.drew := fun h => ⟨h.l.drew, (fun h => by cases h), h.b0⟩
  have tso : ∀ {B : Bs} {T : Trk} {t : Array Value}, TagOK B T t → TagOK B T.soil t := fun h => ⟨h.p, h.s, h.lt⟩
  induction c with
  | skip => exact fun B Q Q' l T tmps w W h hT hL hf hQ => wp_skip (hQ _ _ _ _ _ _ h (.refl _ _) hT hL hf)
  | exit id => exact fun B Q Q' l T tmps w W h hT hL hf hQ => wp_exit (hQ _ _ _ _ _ _ h (.refl _ _) hT hL hf)
  | ret => exact fun B Q Q' l T tmps w W h hT hL hf hQ => wp_ret (hQ _ _ _ _ _ _ h (.refl _ _) hT hL hf)
  | region id ops draw =>
    intro B Q Q' l T tmps w W h hT hL hf hQ
    cases draw with
    | false =>
      exact wp_region_list (seqOps2_ok hp ops.toList l T w W tmps h hT hL hf (fun l' t' T' w' W' hr hs hT' hL' hk => hQ _ _ _ _ _ _ hr hs hT' hL' hk))
    | true =>
      simp only [exec2] at hf
      split at hf
      · rename_i hm hn
        split at hf
        · rename_i hB
          exact wp_region_still hm hB (stillOps2_ok (W := W.drew) hp ops.toList l T.soil w tmps h (tso hT) (hso hL) hf (fun l' t' T' w' hr hs hT' hL' hk => hQ _ _ _ _ _ _ hr hs hT' hL' hk))
        · exact hf.elim
      · rename_i n hm hn
        split at hf
        · rename_i hB
          have hops : ops = ops.toList.toArray := by simp
          rw [hops]
          rw [hops] at hB
          refine wp_region_still_tail n hm hB ?_
          rw [← hops]
          refine stillOps2_ok (W := W.drew) hp (ops.toList.take n) l T.soil w tmps h (tso hT) (hso hL) hf (fun l' t' T' w' hr hs hT' hL' hk => ?_)
          refine seqOps2_ok hp (ops.toList.drop n) l' T' w' W.drew t' hr hT' hL' hk (fun l'' t'' T'' w'' W'' hr' hs' hT2 hL2 hk' => hQ _ _ _ _ _ _ hr' ?_ hT2 hL2 hk')
          refine (hs.trans hs').mono fun i hi => ?_
          rw [← List.filterMap_append, List.take_append_drop] at hi
          exact hi
        · have fin : ∀ {l' : Fr} {t' : Array Value} {w' : World}, Rel l' t' → Same (ops.toList.filterMap (·.dst)) tmps t' → keptF (numsOf (B ++ ((T.drop (touched (.region id ops true) T)).untags (dsts (.region id ops true))).bs)) W.drew w' (Q .normal l' ((T.drop (touched (.region id ops true) T)).untags (dsts (.region id ops true))) w') → Q' .normal { tmps := t', defers := [] } w' := fun {l' t' w'} hr hs hk => by
            obtain ⟨hsz, hkp, hk⟩ := keptF_ok hk
            exact hQ .normal l' t' _ w' w' hr hs (tag_untags (hT.drop _) hs (fun i hi => hi)) ((hso hL).eff rfl hsz hkp) hk
          split at hf
          · rename_i hsel _
            have hf := syncF_use hf (hso hL)
            have hfg : Rel (forget (boxDs E.P ops.toList) l) tmps := forget_ok h (.refl _ _)
            have hH := boxF_ok (t0 := tmps) hp hsel (Q := Q') (fun l' t' w' hr hs hk => fin hr hs hk) _ ops.size _ _ tmps hfg (.refl _ _) (by simp) (by unfold unl; exact Nat.le_trans List.countP_le_length (by simp)) hf
            refine Code.wp_mono (fun e a w hq => ?_) (wp_region_any hm (wpAny_of_N _ _ _ _ hH))
            cases e with
            | panic c => exact hq.elim
            | _ => exact hq
          · rename_i hsel _
            obtain ⟨S, hS, hf⟩ := syncF_use hf (hso hL)
            have hH := heldF_ok (t0 := tmps) hp hsel (Q := Q') (fun l' t' w' hr hs hk => fin hr hs hk) _ _ _ l tmps W.drew h (.refl _ _) (fun _ => hS) hf
            refine Code.wp_mono (fun e a w hq => ?_) (wp_region_any hm (wpAny_of_N _ _ _ _ hH))
            cases e with
            | panic c => exact hq.elim
            | _ => exact hq
          · exact hf.elim
      · exact hf.elim
  | seq a b iha ihb =>
    intro B Q Q' l T tmps w W h hT hL hf hQ
    simp only [exec2] at hf
    split at hf
    · refine wp_seq (iha B _ _ l T tmps w W h hT hL hf (fun e l' t' T' w' W' hr hs hT' hL' hk => ?_))
      cases e with
      | normal => exact ihb B Q Q' l' T' t' w' W' hr hT' hL' hk (fun e l'' t'' T'' w'' W'' hr' hs' hT2 hL2 hk' => hQ _ _ _ _ _ _ hr' (hs.trans hs') hT2 hL2 hk')
      | _ => exact hQ _ _ _ _ _ _ hr (hs.mono fun i hi => List.mem_append.2 (.inl hi)) hT' hL' hk
    · rename_i carried hcar
      obtain ⟨J, ha, hall⟩ := syncF_use hf hL
      have hperm := delKeep_perm (ds := touched a T) T.bs
      have hTk : TagOK B ⟨calm (delAll (touched a T) T.bs), T.tg, T.sg, T.nx, false⟩ tmps := hT.of (fun x hx => ⟨hx, rfl⟩) (fun x hx => ⟨hx, rfl⟩) (fun x hx => by
        rcases List.mem_append.1 hx with hx | hx
        · exact ⟨x, List.mem_append.2 (.inl hx), rfl, rfl⟩
        · obtain ⟨_, y, hy, h2⟩ := calm_mem hx
          exact ⟨y, List.mem_append.2 (.inr (delAll_mem hy).1), h2⟩) (Nat.le_refl _)
      have hT0 : TagOK (B ++ calm (delAll (touched a T) T.bs)) ⟨calm (keepAll (touched a T) T.bs), T.tg, T.sg, T.nx, false⟩ tmps := hT.of (fun x hx => ⟨hx, rfl⟩) (fun x hx => ⟨hx, rfl⟩) (fun x hx => by
        rw [List.append_assoc] at hx
        rcases List.mem_append.1 hx with hx | hx
        · exact ⟨x, List.mem_append.2 (.inl hx), rfl, rfl⟩
        · rcases List.mem_append.1 hx with hx | hx
          · obtain ⟨_, y, hy, h2⟩ := calm_mem hx
            exact ⟨y, List.mem_append.2 (.inr (hperm.mem_iff.1 (List.mem_append.2 (.inl hy)))), h2⟩
          · obtain ⟨_, y, hy, h2⟩ := calm_mem hx
            exact ⟨y, List.mem_append.2 (.inr (hperm.mem_iff.1 (List.mem_append.2 (.inr hy)))), h2⟩) (Nat.le_refl _)
      have hL0 : LocD z (B ++ calm (delAll (touched a T) T.bs)) ⟨calm (keepAll (touched a T) T.bs), T.tg, T.sg, T.nx, false⟩ W W := by
        have hp : (blksOf (B ++ T.bs)).Perm (blksOf (B ++ (delAll (touched a T) T.bs ++ keepAll (touched a T) T.bs))) := by
          rw [blksOf_eq, blksOf_eq]
          exact List.Perm.map _ ((List.Perm.refl B).append hperm.symm)
        have hb0 : ∀ x ∈ B ++ calm (delAll (touched a T) T.bs), x.2.m = 0 := fun x hx => by
          rcases List.mem_append.1 hx with hx | hx
          · exact hL.b0 x hx
          · exact (calm_mem hx).1
        refine ⟨loc_zero (hL.l.perm hp) (.refl _) ?_ ?_, fun _ => rfl, hb0⟩
        · unfold allB; simp only [blks_app, List.map_append, calm_key, List.append_assoc]
        · intro x hx
          obtain ⟨i, hi⟩ := mem_blks.1 hx
          rcases List.mem_append.1 hi with hi | hi
          · exact hb0 _ hi
          · exact (calm_mem hi).1
      refine wp_seq (iha _ _ _ l _ tmps W W h hT0 hL0 ha (fun e l' t' T' w' W' hr hs hT' hL' hk => ?_))
      cases e with
      | normal =>
        simp only at hk
        have hk := syncF_use hk hL'
        split at hk
        · rename_i vs hvs
          obtain ⟨h1, h2⟩ := readAll_ok hr carried vs hvs
          subst h1
          have hsub : Loc z (blksOf (B ++ calm (delAll (touched a T) T.bs))) W' W' := loc_zero hL'.l (blks_sub (List.sublist_append_left _ _)) rfl (fun x hx => by obtain ⟨i, hi⟩ := mem_blks.1 hx; exact hL'.b0 _ hi)
          have hb := locF_use (allT_at _ _ hall _ h2 W' hk) hsub
          refine ihb B Q Q' _ _ t' W' W' (setAll_ok carried _ (forget_ok h hs)) ?_ ?_ hb (fun e l'' t'' T'' w'' W'' hr' hs' hT2 hL2 hk' => hQ _ _ _ _ _ _ hr' (hs.trans hs') hT2 hL2 hk')
          · exact tag_untags hTk hs (fun i hi => List.mem_append.2 (.inl hi))
          · exact ⟨hsub, fun _ => rfl, hL.b0⟩
        · exact hk.elim
      | _ => exact hQ _ _ _ _ _ _ hr (hs.mono fun i hi => List.mem_append.2 (.inl hi)) (back hT') (backL hL') hk
  | cond c a b iha ihb =>
    intro B Q Q' l T tmps w W h hT hL hf hQ
    simp only [exec2] at hf
    split at hf
    · rename_i t ht
      have ev := rd_ok (ds := []) h (fun _ _ hm => by simp at hm) ht
      cases t with
      | true => exact wp_cond_true ev (iha B Q Q' l T tmps w W h hT hL hf (fun e l' t' T' w' W' hr hs hT' hL' hk => hQ _ _ _ _ _ _ hr (hs.mono fun i hi => List.mem_append.2 (.inl hi)) hT' hL' hk))
      | false => exact wp_cond_false ev (ihb B Q Q' l T tmps w W h hT hL hf (fun e l' t' T' w' W' hr hs hT' hL' hk => hQ _ _ _ _ _ _ hr (hs.mono fun i hi => List.mem_append.2 (.inr hi)) hT' hL' hk))
    · exact hf.elim
  | block id c ih =>
    intro B Q Q' l T tmps w W h hT hL hf hQ
    refine wp_block (ih B _ _ l T tmps w W h hT hL hf (fun e l' t' T' w' W' hr hs hT' hL' hk => ?_))
    cases e with
    | exit i =>
      simp only at hk
      simp only [Exit.inBlock]
      split at hk
      · rename_i hi
        rw [if_pos (by simpa using hi)]
        exact hQ _ _ _ _ _ _ hr hs hT' hL' hk
      · rename_i hi
        rw [if_neg (by simpa using hi)]
        exact hQ _ _ _ _ _ _ hr hs hT' hL' hk
    | _ => exact hQ _ _ _ _ _ _ hr hs hT' hL' hk
  | loop c ih =>
    intro B Q Q' l T tmps w W h hT hL hf hQ
    simp only [exec2] at hf
    split at hf
    · exact hf.elim
    · rename_i carried hcar
      obtain ⟨I, m, h0, hall⟩ := syncF_use hf hL
      have hb0 : ∀ x ∈ B ++ calm (delAll (touched c T) T.bs), x.2.m = 0 := fun x hx => by
        rcases List.mem_append.1 hx with hx | hx
        · exact hL.b0 x hx
        · exact (calm_mem hx).1
      have hsub0 : Loc z (blksOf (B ++ calm (delAll (touched c T) T.bs))) W W := (hL.anew (T' := ⟨calm (delAll (touched c T) T.bs), T.tg, T.sg, T.nx, false⟩) rfl).l
      refine wp_loop (fun a w' => ∃ t', a = { tmps := t', defers := [] } ∧ okL (carried.map (·.2)) (vsOf t' carried) = true ∧ Same (dsts c) tmps t' ∧ I (vsOf t' carried) w' ∧ Loc z (blksOf (B ++ calm (delAll (touched c T) T.bs))) w' w') (fun a w' => m (vsOf a.tmps carried) w') ?_ ?_
      · split at h0
        · rename_i vs hvs
          obtain ⟨h1, h2⟩ := readAll_ok h carried vs hvs
          subst h1
          exact ⟨tmps, rfl, h2, .refl _ _, h0, hsub0⟩
        · exact h0.elim
      · rintro a w' ⟨t', rfl, hok, hsame, hI, hLw⟩
        have hb := locF_use (allT_at _ _ hall _ hok w' hI) hLw
        refine ih _ _ _ _ _ t' w' w' (setAll_ok carried _ (forget_ok h hsame)) ?_ ?_ hb (fun e l' t'' T'' w'' W'' hr hs hT2 hL2 hk => ?_)
        · refine tag_untags (B := B ++ calm (delAll (touched c T) T.bs)) (T := ⟨[], T.tg, T.sg, T.nx, false⟩) (hT.of (fun x hx => ⟨hx, rfl⟩) (fun x hx => ⟨hx, rfl⟩) (fun x hx => ?_) (Nat.le_refl _)) hsame (fun i hi => List.mem_append.2 (.inl hi))
          rw [List.append_nil] at hx
          rcases List.mem_append.1 hx with hx | hx
          · exact ⟨x, List.mem_append.2 (.inl hx), rfl, rfl⟩
          · obtain ⟨_, y, hy, h2⟩ := calm_mem hx
            exact ⟨y, List.mem_append.2 (.inr (delAll_mem hy).1), h2⟩
        · refine ⟨?_, fun _ => rfl, hb0⟩
          show Loc z (blksOf (B ++ calm (delAll (touched c T) T.bs) ++ [])) w' w'
          rw [List.append_nil]; exact hLw
        cases e with
        | normal =>
          simp only at hk
          have hk := syncF_use hk hL2
          split at hk
          · rename_i vs' hvs
            obtain ⟨h1, h2⟩ := readAll_ok hr carried vs' hvs
            subst h1
            exact ⟨⟨t'', rfl, h2, (hsame.trans hs).mono (fun i hi => by simpa using hi), hk.1, loc_zero hL2.l (blks_sub (List.sublist_append_left _ _)) rfl (fun x hx => by obtain ⟨i, hi⟩ := mem_blks.1 hx; exact hb0 _ hi)⟩, hk.2⟩
          · exact hk.elim
        | _ => exact hQ _ _ _ _ _ _ hr ((hsame.trans hs).mono (fun i hi => by simpa [dsts] using hi)) (back hT2) (backL hL2) hk
  | _ => exact fun B Q Q' l T tmps w W h hT hL hf hQ => hf.elim
set_option maxRecDepth 512 in omit hp in
theorem resF2_ok {l : Fr} {T : Trk} {w W : World} {tmps : Array Value} (h : Rel l tmps) (hT : TagOK [] T tmps) (hL : LocD z [] T w W) : ∀ (rs : List ResultVar) (F : List Value → Prop), resF2 E z T l w rs F →
    ∃ vs, F vs ∧ (rs.mapM (resV tmps) : Sem (List Value)).run E.P W = .ok vs W
  | [], F, hf => ⟨[], hf, by simp⟩
  | .tmp t :: r, F, hf => by
    simp only [resF2] at hf
    split at hf
    · rename_i v hv
      have ev := rd_ok (ds := []) h (fun _ _ hm => by simp at hm) hv
      obtain ⟨vs, h1, h2⟩ := resF2_ok h hT hL r _ hf
      refine ⟨_, h1, ?_⟩
      have ev' : tmps.getD t undef = v := ev
      rw [List.mapM_cons, Sem.run_bind]
      show ((Result.ok (tmps.getD t undef) W).andThen _) = _
      rw [Result.andThen_ok, Sem.run_bind, h2, ev']
      rfl
    · exact hf.elim
  | .cell a t :: r, F, hf => by
    have fin : ∀ {b o : Nat} {agg : Bool} {n : Nat} {cs : List Value}, tmps.getD a undef = .pointer (some ⟨b, o, none⟩) → ldK E.P t = some (agg, n) → (cs.length == n) = true → At W b o cs → (resF2 E z T l w r fun vs => F (toV agg cs :: vs)) → ∃ vs, F vs ∧ ((.cell a t :: r).mapM (resV tmps) : Sem (List Value)).run E.P W = .ok vs W := by
      intro b o agg n cs ev' hk hlen hat hf
      have hl := run_loadVar' hk hlen hat
      obtain ⟨vs, h4, h5⟩ := resF2_ok h hT hL r _ hf
      refine ⟨_, h4, ?_⟩
      have hv' : (resV tmps (.cell a t)).run E.P W = .ok (toV agg cs) W := by
        simp only [resV, ev', asAddr]
        rw [Sem.run_bind]
        exact hl
      rw [List.mapM_cons, Sem.run_bind, hv', Result.andThen_ok, Sem.run_bind, h5]
      rfl
    simp only [resF2] at hf
    split at hf
    · rename_i v hl
      obtain ⟨b, off, agg, n, cs, h1, h2, h3, h4, rfl⟩ := trkLoad_ok hl hT hL.l
      exact fin h1 h2 h3 h4 hf
    · exact hf.elim
    · split at hf
      · rename_i p hv
        have ev := rd_ok (ds := []) h (fun _ _ hm => by simp at hm) hv
        unfold loadF at hf
        obtain ⟨b, o, h1, h2⟩ := nn_ex hf
        have h2 := h2 rfl
        subst h2
        split at h1
        · rename_i agg n ck hk hs
          obtain ⟨cs, h3⟩ := exT_ex _ _ h1
          split at h3
          · rename_i hlen
            exact fin ev hk hlen (AtF_at (syncF_use (gimp_true h3.1 rfl) hL)) h3.2
          · exact h3.elim
        · exact h1.elim
      · exact hf.elim
/-- FROM THE FORMULA TO THE CONTRACT. -/
theorem calls_of_exec2 {f : FuncId} {fn : Func} {c : Code} {args : List Value} {w : World} {R : Ending → World → Prop} (hf : E.P.funcs[f]? = some fn) (hb : fn.body = some c)
    (h : execR2 E fn.results.toList R c (initF args (fn.ntmps - args.length)) w) : Calls E.P f args.toArray w R := by
  refine calls_of_wp hf hb ?_
  have hi := initF_ok args (fn.ntmps - args.length)
  have hT0 : ∀ t : Array Value, TagOK [] ⟨[], [], [], 0, false⟩ t := fun t => ⟨(fun _ _ _ h => by cases h), (fun _ _ h => by cases h), (fun _ h => by cases h)⟩
  have hL0 : LocD w.heap.size [] ⟨[], [], [], 0, false⟩ w w := ⟨⟨.refl _ _, (fun _ h => by cases h), (fun _ h => by cases h), .nil, (fun _ h => by cases h), Nat.le_refl _⟩, fun _ => rfl, (fun _ h => by cases h)⟩
  have res : ∀ {t' : Array Value} {w' : World} {vs : List Value}, (fn.results.toList.mapM (resV t') : Sem (List Value)).run E.P w' = .ok vs w' → (results fn t').run E.P w' = .ok (retV vs) w' := fun {t' w' vs} h2 => by
    show (do let vs ← fn.results.mapM (resV t'); pure (if h : vs.size = 1 then vs[0] else .tuple vs) : Sem Value).run E.P w' = _
    rw [Sem.run_bind, Array.mapM_eq_mapM_toList, Sem.run_map, h2]
    show Result.ok (if h : vs.toArray.size = 1 then vs.toArray[0] else .tuple vs.toArray) w' = _
    match vs with
    | [] => rfl
    | [v] => rfl
    | a :: b :: r => simp [retV]
  unfold execR2 at h
  split at h
  · refine exec2_ok hp c [] _ _ _ _ _ w w (by simpa using hi) (hT0 _) hL0 h (fun e l' t' T' w' W' hr _ hT' hL' hq => ?_)
    have key : (resF2 E w.heap.size T' l' w' fn.results.toList fun vs => syncF w.heap.size [] T' w' fun W => R (.returned (retV vs)) W) → ∃ v, (results fn t').run E.P W' = .ok v W' ∧ R (.returned v) W' := fun hq => by
      obtain ⟨vs, h1, h2⟩ := resF2_ok hr hT' hL' _ _ hq
      exact ⟨retV vs, res h2, syncF_use h1 hL'⟩
    cases e with
    | normal => exact ⟨rfl, key hq⟩
    | ret => exact ⟨rfl, key hq⟩
    | _ => exact hq.elim
  · rename_i carried hcar
    obtain ⟨J, hex, hall⟩ := h
    have fin : ∀ (l' : Fr) (t' : Array Value) (w' : World), Rel l' t' → t'.size = (initF args (fn.ntmps - args.length)).length → (match readAll l' carried with | some vs => J vs w' | none => False) → ∃ v, (results fn t').run E.P w' = .ok v w' ∧ R (.returned v) w' := by
      intro l' t' w' hr hsz hq
      split at hq
      · rename_i vs hvs
        obtain ⟨h1, h2⟩ := readAll_ok hr carried vs hvs
        subst h1
        have hb := allT_at _ _ hall _ h2 w' hq
        obtain ⟨vs, h1, h2⟩ := resF_ok (tmps := t') (setAll_ok carried _ ⟨by simp [hsz], fun t s ht => by
          rw [List.getElem?_map] at ht
          cases hx : (initF args (fn.ntmps - args.length))[t]? with
          | none => simp [hx] at ht
          | some y => simp [hx] at ht; subst ht; trivial⟩) _ _ hb
        exact ⟨retV vs, res h2, h1⟩
      · exact hq.elim
    refine exec2_ok hp c [] _ _ _ _ _ w w (by simpa using hi) (hT0 _) hL0 hex (fun e l' t' T' w' W' hr hs hT' hL' hq => ?_)
    have hsz : t'.size = (initF args (fn.ntmps - args.length)).length := by
      rw [hs.size]
      simpa using hi.size
    cases e with
    | normal => exact ⟨rfl, fin l' t' W' hr hsz (syncF_use hq hL')⟩
    | ret => exact ⟨rfl, fin l' t' W' hr hsz (syncF_use hq hL')⟩
    | _ => exact hq.elim
end
theorem calls_of_exec2' {P : Program} {loops : List (Nat × List (Nat × Ck))} {pur : FuncId → List Value → Option (Option Prop × Value)} {tails : List (Nat × Nat)} {joins : List (Nat × List (Nat × Ck))} {boxes : List (Nat × Unit)} {f : FuncId} {fn : Func} {c : Code} {args : List Value} {w : World} {R : Ending → World → Prop} {V : Prop}
    (hp : PurOK { P, loops, pur, tails, joins, boxes }) (hf : P.funcs[f]? = some fn) (hb : fn.body = some c)
    (e : execR2 { P, loops, pur, tails, joins, boxes } fn.results.toList R c (initF args (fn.ntmps - args.length)) w = V) (h : V) : Calls P f args.toArray w R :=
  calls_of_exec2 (E := { P, loops, pur, tails, joins, boxes }) hp hf hb (e.mpr h)

end Go.Proofs.YtcpjajjocmpkjaaGreatDoor

/- The formulas of functions by the symbolic evaluator, and that each gives the call's contract. Written by a program (gen.py). No condition. -/
namespace Go.Proofs.YtcpjajjocmpkjaaGreatDoor
set_option maxRecDepth 100000
set_option linter.unusedVariables false

def VC_rbefore (nb : ByteArray) (ps : ByteArray) (mb : Int) (dl : Int) (p : Option Addr) (n : Nat) (c : Nat) (id : Nat → Int) (q : Option Addr) (k : Nat) (d : Nat) (di : ByteArray) (bt : Int) (ct : Bool) (fr : ByteArray) (ar : Int) (ie : Nat → Int) (q2 : Option Addr) (k2 : Nat) (d2 : Nat) (di2 : ByteArray) (bt2 : Int) (ct2 : Bool) (fr2 : ByteArray) (ar2 : Int) (w : World) (R : Ending → World → Prop) : Prop :=
 ∀ (n_1 n_2 n_3 : Nat) (W : World),
 Loc w.heap.size
 [Blk.mk n_3 70
 (arrI IntKind.u8 ie 32 0 ++ [Value.slice q2 k2 d2, Value.string di2,
 Value.int IntKind.i64 bt2, Value.bool ct2, Value.string fr2, Value.int IntKind.i64 ar2])
 2,
 Blk.mk n_2 70
 (arrI IntKind.u8 id 32 0 ++ [Value.slice q k d, Value.string di,
 Value.int IntKind.i64 bt, Value.bool ct, Value.string fr, Value.int IntKind.i64 ar])
 2,
 Blk.mk n_1 24
 [Value.string nb, Value.string ps, Value.int IntKind.i64 mb, Value.int IntKind.i64 dl, Value.slice p n c] 2]
 w W →
 ∃ (S : World → Prop),
 S W ∧
 ∃ (x : ByteArray),
 ∃ (x_1 : ByteArray),
 ∃ (x_2 : Int),
 ∃ (x_3 : Int),
 ∃ (p_1 : Option Addr),
 ∃ (n_4 : Nat),
 ∃ (c_1 : Nat),
 (∀ (w' : World),
 S w' →
 AtL w' n_1 0
 [Value.string x, Value.string x_1, Value.int IntKind.i64 x_2, Value.int IntKind.i64 x_3,
 Value.slice p_1 n_4 c_1]) ∧
 ∃ (f : Nat → Int),
 ∃ (p_2 : Option Addr),
 ∃ (n_5 : Nat),
 ∃ (c_2 : Nat),
 ∃ (x_4 : ByteArray),
 ∃ (x_5 : Int),
 ∃ (x_6 : Bool),
 ∃ (x_7 : ByteArray),
 ∃ (x_8 : Int),
 (∀ (w' : World),
 S w' →
 AtL w' n_2 0
 (arrI IntKind.u8 f 32 0 ++ [Value.slice p_2 n_5 c_2,
 Value.string x_4, Value.int IntKind.i64 x_5, Value.bool x_6, Value.string x_7,
 Value.int IntKind.i64 x_8])) ∧
 ∃ (x_9 : ByteArray),
 ∃ (x_10 : ByteArray),
 ∃ (x_11 : Int),
 ∃ (x_12 : Int),
 ∃ (p_3 : Option Addr),
 ∃ (n_6 : Nat),
 ∃ (c_3 : Nat),
 (∀ (w' : World),
 S w' →
 AtL w' n_1 0
 [Value.string x_9, Value.string x_10, Value.int IntKind.i64 x_11,
 Value.int IntKind.i64 x_12, Value.slice p_3 n_6 c_3]) ∧
 ∃ (f_1 : Nat → Int),
 ∃ (p_4 : Option Addr),
 ∃ (n_7 : Nat),
 ∃ (c_4 : Nat),
 ∃ (x_13 : ByteArray),
 ∃ (x_14 : Int),
 ∃ (x_15 : Bool),
 ∃ (x_16 : ByteArray),
 ∃ (x_17 : Int),
 (∀ (w' : World),
 S w' →
 AtL w' n_3 0
 (arrI IntKind.u8 f_1 32 0 ++ [Value.slice p_4 n_7 c_4, Value.string x_13, Value.int IntKind.i64 x_14,
 Value.bool x_15, Value.string x_16, Value.int IntKind.i64 x_17])) ∧
 CallsS Tryz.prog 30
 #[Value.agg
 #[Value.string x, Value.string x_1, Value.int IntKind.i64 x_2,
 Value.int IntKind.i64 x_3, Value.slice p_1 n_4 c_1],
 Value.agg
 (arrI IntKind.u8 f 32 0 ++ [Value.slice p_2 n_5 c_2, Value.string x_4, Value.int IntKind.i64 x_5,
 Value.bool x_6, Value.string x_7, Value.int IntKind.i64 x_8]).toArray]
 W fun (e : Ending) (w' : World) =>
 ∃ (x : Int),
 e = Ending.returned (Value.int IntKind.i64 x) ∧
 S w' ∧
 CallsS Tryz.prog 30
 #[Value.agg
 #[Value.string x_9, Value.string x_10, Value.int IntKind.i64 x_11,
 Value.int IntKind.i64 x_12, Value.slice p_3 n_6 c_3],
 Value.agg
 (arrI IntKind.u8 f_1 32 0 ++ [Value.slice p_4 n_7 c_4, Value.string x_13, Value.int IntKind.i64 x_14,
 Value.bool x_15, Value.string x_16, Value.int IntKind.i64 x_17]).toArray]
 w' fun (e : Ending) (w' : World) =>
 ∃ (x_18 : Int),
 e = Ending.returned (Value.int IntKind.i64 x_18) ∧
 KeptL [n_3, n_2, n_1] W w' ∧
 ∃ (s : ByteArray),
 gimp (!decide (x < x_18) && x == x_18)
 (s.size = 32 ∧
 ∀ (W : World),
 Loc w.heap.size
 [Blk.mk n_3 70
 (arrI IntKind.u8 ie 32 0 ++ [Value.slice q2 k2 d2, Value.string di2,
 Value.int IntKind.i64 bt2, Value.bool ct2, Value.string fr2,
 Value.int IntKind.i64 ar2])
 0,
 Blk.mk n_2 70
 (arrI IntKind.u8 id 32 0 ++ [Value.slice q k d, Value.string di, Value.int IntKind.i64 bt,
 Value.bool ct, Value.string fr, Value.int IntKind.i64 ar])
 0,
 Blk.mk n_1 24
 [Value.string nb, Value.string ps, Value.int IntKind.i64 mb,
 Value.int IntKind.i64 dl, Value.slice p n c]
 0]
 w' W →
 BytesP W (some (Addr.mk n_2 0 none)) s) ∧
 ∃ (s_1 : ByteArray),
 gimp (!decide (x < x_18) && x == x_18)
 (s_1.size = 32 ∧
 ∀ (W : World),
 Loc w.heap.size
 [Blk.mk n_3 70
 (arrI IntKind.u8 ie 32 0 ++ [Value.slice q2 k2 d2, Value.string di2,
 Value.int IntKind.i64 bt2, Value.bool ct2, Value.string fr2,
 Value.int IntKind.i64 ar2])
 0,
 Blk.mk n_2 70
 (arrI IntKind.u8 id 32 0 ++ [Value.slice q k d, Value.string di,
 Value.int IntKind.i64 bt, Value.bool ct, Value.string fr,
 Value.int IntKind.i64 ar])
 0,
 Blk.mk n_1 24
 [Value.string nb, Value.string ps, Value.int IntKind.i64 mb,
 Value.int IntKind.i64 dl, Value.slice p n c]
 0]
 w' W →
 BytesP W (some (Addr.mk n_3 0 none)) s_1) ∧
 ∀ (W : World),
 Loc w.heap.size
 [Blk.mk n_3 70
 (arrI IntKind.u8 ie 32 0 ++ [Value.slice q2 k2 d2, Value.string di2,
 Value.int IntKind.i64 bt2, Value.bool ct2, Value.string fr2,
 Value.int IntKind.i64 ar2])
 0,
 Blk.mk n_2 70
 (arrI IntKind.u8 id 32 0 ++ [Value.slice q k d, Value.string di, Value.int IntKind.i64 bt,
 Value.bool ct, Value.string fr, Value.int IntKind.i64 ar])
 0,
 Blk.mk n_1 24
 [Value.string nb, Value.string ps, Value.int IntKind.i64 mb,
 Value.int IntKind.i64 dl, Value.slice p n c]
 0]
 w' W →
 R
 (Ending.returned
 (Value.bool
 (decide (x < x_18) ||
 x == x_18 && Op.bytesLess s.toList s_1.toList)))
 W
theorem vc_rbefore (nb : ByteArray) (ps : ByteArray) (mb : Int) (dl : Int) (p : Option Addr) (n : Nat) (c : Nat) (id : Nat → Int) (q : Option Addr) (k : Nat) (d : Nat) (di : ByteArray) (bt : Int) (ct : Bool) (fr : ByteArray) (ar : Int) (ie : Nat → Int) (q2 : Option Addr) (k2 : Nat) (d2 : Nat) (di2 : ByteArray) (bt2 : Int) (ct2 : Bool) (fr2 : ByteArray) (ar2 : Int) (w : World) (R : Ending → World → Prop) (h : VC_rbefore nb ps mb dl p n c id q k d di bt ct fr ar ie q2 k2 d2 di2 bt2 ct2 fr2 ar2 w R) : Calls Tryz.prog 31 ([Value.agg
    #[Value.string nb, Value.string ps, Value.int IntKind.i64 mb, Value.int IntKind.i64 dl, Value.slice p n c],
  Value.agg
    (arrI IntKind.u8 id 32 0 ++
        [Value.slice q k d, Value.string di, Value.int IntKind.i64 bt, Value.bool ct, Value.string fr,
          Value.int IntKind.i64 ar]).toArray,
  Value.agg
    (arrI IntKind.u8 ie 32 0 ++
        [Value.slice q2 k2 d2, Value.string di2, Value.int IntKind.i64 bt2, Value.bool ct2, Value.string fr2,
          Value.int IntKind.i64 ar2]).toArray] : List Value).toArray w R := by
  have e : execR2 { P := Tryz.prog, loops := [], pur := pur1, tails := [(1, 2)], joins := [], boxes := [] } Tryz.f31.results.toList R (Tryz.f31.body.getD .skip) (initF [Value.agg
    #[Value.string nb, Value.string ps, Value.int IntKind.i64 mb, Value.int IntKind.i64 dl, Value.slice p n c],
  Value.agg
    (arrI IntKind.u8 id 32 0 ++
        [Value.slice q k d, Value.string di, Value.int IntKind.i64 bt, Value.bool ct, Value.string fr,
          Value.int IntKind.i64 ar]).toArray,
  Value.agg
    (arrI IntKind.u8 ie 32 0 ++
        [Value.slice q2 k2 d2, Value.string di2, Value.int IntKind.i64 bt2, Value.bool ct2, Value.string fr2,
          Value.int IntKind.i64
            ar2]).toArray] (Tryz.f31.ntmps - ([Value.agg
    #[Value.string nb, Value.string ps, Value.int IntKind.i64 mb, Value.int IntKind.i64 dl, Value.slice p n c],
  Value.agg
    (arrI IntKind.u8 id 32 0 ++
        [Value.slice q k d, Value.string di, Value.int IntKind.i64 bt, Value.bool ct, Value.string fr,
          Value.int IntKind.i64 ar]).toArray,
  Value.agg
    (arrI IntKind.u8 ie 32 0 ++
        [Value.slice q2 k2 d2, Value.string di2, Value.int IntKind.i64 bt2, Value.bool ct2, Value.string fr2,
          Value.int IntKind.i64
            ar2]).toArray] : List Value).length)) w = VC_rbefore nb ps mb dl p n c id q k d di bt ct fr ar ie q2 k2 d2 di2 bt2 ct2 fr2 ar2 w R := by kernel_rfl
  have hb : Tryz.f31.body = some (Tryz.f31.body.getD .skip) := by kernel_rfl
  exact calls_of_exec2' (P := Tryz.prog) (fn := Tryz.f31) (c := Tryz.f31.body.getD .skip) (args := [Value.agg
    #[Value.string nb, Value.string ps, Value.int IntKind.i64 mb, Value.int IntKind.i64 dl, Value.slice p n c],
  Value.agg
    (arrI IntKind.u8 id 32 0 ++
        [Value.slice q k d, Value.string di, Value.int IntKind.i64 bt, Value.bool ct, Value.string fr,
          Value.int IntKind.i64 ar]).toArray,
  Value.agg
    (arrI IntKind.u8 ie 32 0 ++
        [Value.slice q2 k2 d2, Value.string di2, Value.int IntKind.i64 bt2, Value.bool ct2, Value.string fr2,
          Value.int IntKind.i64 ar2]).toArray]) (w := w) (R := R) pur1_ok Tryz.func31 hb e h

def VC_selectsL (nb : ByteArray) (ps : ByteArray) (mb : Int) (dl : Int) (p : Option Addr) (n : Nat) (c : Nat) (q : Option Addr) (k : Nat) (d : Nat) (now : Int) (w : World) (R : Ending → World → Prop) : Prop :=
 ∀ (n_1 : Nat) (W : World),
 Loc w.heap.size
 [Blk.mk n_1 24
 [Value.string nb, Value.string ps, Value.int IntKind.i64 mb, Value.int IntKind.i64 dl, Value.slice p n c] 2]
 w W →
 CallsS Tryz.prog 4
 #[Value.agg
 #[Value.string nb, Value.string ps, Value.int IntKind.i64 mb, Value.int IntKind.i64 dl, Value.slice p n c]]
 W fun (e : Ending) (w' : World) =>
 ∃ (x : ByteArray),
 ∃ (x_1 : ByteArray),
 ∃ (x_2 : Int),
 ∃ (x_3 : Int),
 ∃ (p_1 : Option Addr),
 ∃ (n_2 : Nat),
 ∃ (c_1 : Nat),
 ∃ (x_4 : ByteArray),
 ∃ (x_5 : ByteArray),
 ∃ (x_6 : Int),
 ∃ (x_7 : Int),
 ∃ (p_2 : Option Addr),
 ∃ (n_3 : Nat),
 ∃ (c_2 : Nat),
 e =
 Ending.returned
 (Value.tuple
 #[Value.agg
 #[Value.string x, Value.string x_1, Value.int IntKind.i64 x_2, Value.int IntKind.i64 x_3,
 Value.slice p_1 n_2 c_1],
 Value.agg
 #[Value.string x_4, Value.string x_5, Value.int IntKind.i64 x_6, Value.int IntKind.i64 x_7,
 Value.slice p_2 n_3 c_2]]) ∧
 KeptL [n_1] W w' ∧
 ∀ (n_4 n_5 : Nat) (W : World),
 Loc w.heap.size
 [Blk.mk n_5 24
 [Value.string x_4, Value.string x_5, Value.int IntKind.i64 x_6, Value.int IntKind.i64 x_7,
 Value.slice p_2 n_3 c_2]
 (wrM 2),
 Blk.mk n_4 26
 [Value.string x, Value.string x_1, Value.int IntKind.i64 x_2, Value.int IntKind.i64 x_3,
 Value.slice p_1 n_2 c_1]
 (wrM 2),
 Blk.mk n_1 24
 [Value.string nb, Value.string ps, Value.int IntKind.i64 mb, Value.int IntKind.i64 dl,
 Value.slice p n c]
 0]
 w' W →
 CallsS Tryz.prog 5
 #[Value.agg
 #[Value.string x, Value.string x_1, Value.int IntKind.i64 x_2, Value.int IntKind.i64 x_3,
 Value.slice p_1 n_2 c_1]]
 W fun (e : Ending) (w' : World) =>
 ∃ (x_8 : Option Addr),
 ∃ (x_9 : Int),
 e = Ending.returned (Value.tuple #[Value.pointer x_8, Value.int IntKind.i64 x_9]) ∧
 KeptL [n_5, n_4, n_1] W w' ∧
 bsp (x_9 != 0 || x_8.isNone)
 (CallsS Tryz.prog 6 #[] w' fun (e : Ending) (w'_1 : World) =>
 ∃ (x : Bool),
 e = Ending.returned (Value.bool x) ∧
 KeptL [n_5, n_4, n_1] w' w'_1 ∧
 bsp x
 (CallsS Tryz.prog 7
 #[Value.agg
 #[Value.string x_4, Value.string x_5, Value.int IntKind.i64 x_6,
 Value.int IntKind.i64 x_7, Value.slice p_2 n_3 c_2]]
 w'_1 fun (e : Ending) (w' : World) =>
 ∃ (x : Int),
 e = Ending.returned (Value.int IntKind.i64 x) ∧
 KeptL [n_5, n_4, n_1] w'_1 w' ∧
 R (Ending.returned (Value.bool (true && x_9 == x))) w')
 (KeptL [n_5, n_4, n_1] w'_1 w'_1 ∧ R (Ending.returned (Value.bool false)) w'_1))
 (CallsS Tryz.prog 8 #[Value.slice q k d] w' fun (e : Ending) (w'_1 : World) =>
 ∃ (p_3 : Option Addr),
 ∃ (n_6 : Nat),
 ∃ (c_3 : Nat),
 ∃ (p_4 : Option Addr),
 ∃ (n_7 : Nat),
 ∃ (c_4 : Nat),
 e =
 Ending.returned (Value.tuple #[Value.slice p_3 n_6 c_3, Value.slice p_4 n_7 c_4]) ∧
 KeptL [n_5, n_4, n_1] w' w'_1 ∧
 ∀ (W : World),
 Loc w.heap.size
 [Blk.mk n_5 24
 [Value.string x_4, Value.string x_5, Value.int IntKind.i64 x_6,
 Value.int IntKind.i64 x_7, Value.slice p_2 n_3 c_2]
 0,
 Blk.mk n_4 26
 [Value.string x, Value.string x_1, Value.int IntKind.i64 x_2,
 Value.int IntKind.i64 x_3, Value.slice p_1 n_2 c_1]
 0,
 Blk.mk n_1 24
 [Value.string nb, Value.string ps, Value.int IntKind.i64 mb,
 Value.int IntKind.i64 dl, Value.slice p n c]
 0]
 w'_1 W →
 ∃ (S : World → Prop),
 S W ∧
 ∃ (x_10 : ByteArray),
 ∃ (x_11 : ByteArray),
 ∃ (x_12 : Int),
 ∃ (x_13 : Int),
 ∃ (p_5 : Option Addr),
 ∃ (n_8 : Nat),
 ∃ (c_5 : Nat),
 (∀ (w' : World),
 S w' →
 AtL w' n_5 0
 [Value.string x_10, Value.string x_11, Value.int IntKind.i64 x_12,
 Value.int IntKind.i64 x_13, Value.slice p_5 n_8 c_5]) ∧
 CallsS Tryz.prog 9
 #[Value.pointer x_8, Value.slice p_3 n_6 c_3,
 Value.int IntKind.i64 now]
 W fun (e : Ending) (w' : World) =>
 ∃ (p_6 : Option Addr),
 ∃ (n_9 : Nat),
 ∃ (c_6 : Nat),
 e = Ending.returned (Value.slice p_6 n_9 c_6) ∧
 S w' ∧
 CallsS Tryz.prog 10
 #[Value.agg
 #[Value.string x_10, Value.string x_11,
 Value.int IntKind.i64 x_12, Value.int IntKind.i64 x_13,
 Value.slice p_5 n_8 c_5],
 Value.slice p_4 n_7 c_4, Value.int IntKind.i64 now]
 w' fun (e : Ending) (w' : World) =>
 ∃ (p_7 : Option Addr),
 ∃ (n_10 : Nat),
 ∃ (c_7 : Nat),
 e = Ending.returned (Value.slice p_7 n_10 c_7) ∧
 KeptL [n_5, n_4, n_1] W w' ∧
 bsp ((↑n_9 : Int) != (↑n_10 : Int))
 (R (Ending.returned (Value.bool false)) w')
 (∃ (I : List Value → World → Prop),
 ∃ (m : List Value → World → Nat),
 I [Value.int IntKind.i64 0] w' ∧
 ∀ (x_14 : Int) (w' : World),
 I [Value.int IntKind.i64 x_14] w' →
 Loc w.heap.size
 [Blk.mk n_5 24
 [Value.string x_4, Value.string x_5,
 Value.int IntKind.i64 x_6,
 Value.int IntKind.i64 x_7,
 Value.slice p_2 n_3 c_2]
 0,
 Blk.mk n_4 26
 [Value.string x, Value.string x_1,
 Value.int IntKind.i64 x_2,
 Value.int IntKind.i64 x_3,
 Value.slice p_1 n_2 c_1]
 0,
 Blk.mk n_1 24
 [Value.string nb, Value.string ps,
 Value.int IntKind.i64 mb,
 Value.int IntKind.i64 dl, Value.slice p n c]
 0]
 w' w' →
 bsp (decide (x_14 < (↑n_9 : Int)))
 (nn true p_6 fun (b o : Nat) =>
 (0 ≤ x_14 ∧ x_14 < (↑n_9 : Int)) ∧
 ∃ (f : Nat → Int),
 (∀ (W : World),
 Loc w.heap.size
 [Blk.mk n_5 24
 [Value.string x_4, Value.string x_5,
 Value.int IntKind.i64 x_6,
 Value.int IntKind.i64 x_7,
 Value.slice p_2 n_3 c_2]
 0,
 Blk.mk n_4 26
 [Value.string x, Value.string x_1,
 Value.int IntKind.i64 x_2,
 Value.int IntKind.i64 x_3,
 Value.slice p_1 n_2 c_1]
 0,
 Blk.mk n_1 24
 [Value.string nb, Value.string ps,
 Value.int IntKind.i64 mb,
 Value.int IntKind.i64 dl,
 Value.slice p n c]
 0]
 w' W →
 AtL W b (o + x_14.toNat * 32)
 (arrI IntKind.u8 f 32 0)) ∧
 nn true p_7 fun (b o : Nat) =>
 (0 ≤ x_14 ∧ x_14 < (↑n_10 : Int)) ∧
 ∃ (f_1 : Nat → Int),
 (∀ (W : World),
 Loc w.heap.size
 [Blk.mk n_5 24
 [Value.string x_4, Value.string x_5,
 Value.int IntKind.i64 x_6,
 Value.int IntKind.i64 x_7,
 Value.slice p_2 n_3 c_2]
 0,
 Blk.mk n_4 26
 [Value.string x, Value.string x_1,
 Value.int IntKind.i64 x_2,
 Value.int IntKind.i64 x_3,
 Value.slice p_1 n_2 c_1]
 0,
 Blk.mk n_1 24
 [Value.string nb, Value.string ps,
 Value.int IntKind.i64 mb,
 Value.int IntKind.i64 dl,
 Value.slice p n c]
 0]
 w' W →
 AtL W b (o + x_14.toNat * 32)
 (arrI IntKind.u8 f_1 32 0)) ∧
 ∃ (r : Bool),
 EqP Tryz.prog 42
 (Value.agg
 (arrI IntKind.u8 f 32 0).toArray)
 (Value.agg
 (arrI IntKind.u8 f_1 32 0).toArray)
 r ∧
 bsp (!r)
 (∀ (W : World),
 Loc w.heap.size
 [Blk.mk n_5 24
 [Value.string x_4, Value.string x_5,
 Value.int IntKind.i64 x_6,
 Value.int IntKind.i64 x_7,
 Value.slice p_2 n_3 c_2]
 0,
 Blk.mk n_4 26
 [Value.string x, Value.string x_1,
 Value.int IntKind.i64 x_2,
 Value.int IntKind.i64 x_3,
 Value.slice p_1 n_2 c_1]
 0,
 Blk.mk n_1 24
 [Value.string nb, Value.string ps,
 Value.int IntKind.i64 mb,
 Value.int IntKind.i64 dl,
 Value.slice p n c]
 0]
 w' W →
 R (Ending.returned (Value.bool false))
 W)
 (∀ (W : World),
 Loc w.heap.size
 [Blk.mk n_5 24
 [Value.string x_4, Value.string x_5,
 Value.int IntKind.i64 x_6,
 Value.int IntKind.i64 x_7,
 Value.slice p_2 n_3 c_2]
 0,
 Blk.mk n_4 26
 [Value.string x, Value.string x_1,
 Value.int IntKind.i64 x_2,
 Value.int IntKind.i64 x_3,
 Value.slice p_1 n_2 c_1]
 0,
 Blk.mk n_1 24
 [Value.string nb, Value.string ps,
 Value.int IntKind.i64 mb,
 Value.int IntKind.i64 dl,
 Value.slice p n c]
 0]
 w' W →
 I
 [Value.int IntKind.i64
 (IntKind.i64.wrap (x_14 + 1))]
 W ∧
 m
 [Value.int IntKind.i64
 (IntKind.i64.wrap (x_14 + 1))]
 W <
 m [Value.int IntKind.i64 x_14] w'))
 (CallsS Tryz.prog 6 #[] w'
 fun (e : Ending) (w'_2 : World) =>
 ∃ (x : Bool),
 e = Ending.returned (Value.bool x) ∧
 KeptL [n_5, n_4, n_1] w' w'_2 ∧
 R (Ending.returned (Value.bool x)) w'_2)))
theorem vc_selectsL (nb : ByteArray) (ps : ByteArray) (mb : Int) (dl : Int) (p : Option Addr) (n : Nat) (c : Nat) (q : Option Addr) (k : Nat) (d : Nat) (now : Int) (w : World) (R : Ending → World → Prop) (h : VC_selectsL nb ps mb dl p n c q k d now w R) : Calls Tryz.prog 3 ([Value.agg
    #[Value.string nb, Value.string ps, Value.int IntKind.i64 mb, Value.int IntKind.i64 dl, Value.slice p n c],
  Value.slice q k d, Value.int IntKind.i64 now] : List Value).toArray w R := by
  have e : execR2 { P := Tryz.prog, loops := [(10, [(15, Ck.int IntKind.i64)])], pur := pur1, tails := [(6, 3)], joins := [], boxes := [] } Tryz.f3.results.toList R (Tryz.f3.body.getD .skip) (initF [Value.agg
    #[Value.string nb, Value.string ps, Value.int IntKind.i64 mb, Value.int IntKind.i64 dl, Value.slice p n c],
  Value.slice q k d,
  Value.int IntKind.i64
    now] (Tryz.f3.ntmps - ([Value.agg
    #[Value.string nb, Value.string ps, Value.int IntKind.i64 mb, Value.int IntKind.i64 dl, Value.slice p n c],
  Value.slice q k d,
  Value.int IntKind.i64 now] : List Value).length)) w = VC_selectsL nb ps mb dl p n c q k d now w R := by kernel_rfl
  have hb : Tryz.f3.body = some (Tryz.f3.body.getD .skip) := by kernel_rfl
  exact calls_of_exec2' (P := Tryz.prog) (fn := Tryz.f3) (c := Tryz.f3.body.getD .skip) (args := [Value.agg
    #[Value.string nb, Value.string ps, Value.int IntKind.i64 mb, Value.int IntKind.i64 dl, Value.slice p n c],
  Value.slice q k d, Value.int IntKind.i64 now]) (w := w) (R := R) pur1_ok Tryz.func3 hb e h

end Go.Proofs.YtcpjajjocmpkjaaGreatDoor

/- The contract of the reference's before. Identities are bytes. -/
namespace Go.Proofs.YtcpjajjocmpkjaaGreatDoor
open Go.RowKit Go.Sort

theorem cb_lt : ∀ a b : List UInt8, (Lib.compareBytes a b < 0) ↔ a < b
  | [], [] => by simp [Lib.compareBytes]
  | [], _ :: _ => by simp [Lib.compareBytes]
  | _ :: _, [] => by simp [Lib.compareBytes]
  | a :: r, b :: s => by
    have ih := cb_lt r s
    simp only [Lib.compareBytes]
    rw [List.cons_lt_cons_iff]
    split
    · rename_i h; simp [h]
    · rename_i h
      split
      · rename_i h2
        have : ¬ a = b := fun e => by subst e; exact h h2
        simp [h, this]
      · rename_i h2
        have : a = b := by
          rw [UInt8.lt_iff_toNat_lt] at h h2
          exact UInt8.toNat_inj.1 (by omega)
        subst this
        simp [h, ih]
/-- The bytes of an identity. -/
def idS (f : Nat → Int) : ByteArray := ⟨(idB f).toArray⟩
theorem idS_size (f : Nat → Int) : (idS f).size = 32 := by
  show (idB f).toArray.size = 32
  simp [idB, idI]
theorem idS_cells {f : Nat → Int} (h : ∀ j, 0 ≤ f j ∧ f j ≤ 255) : byteCells (idS f) = arrI .u8 f 32 0 := by
  rw [arrI_idI]
  show ((idB f).toArray.toList.map fun b => Value.int .u8 (b.toNat : Int)) = _
  simp only [idB, List.map_map]
  refine List.map_congr_left fun x hx => ?_
  have := idI_bd h x hx
  simp only [Function.comp_apply]
  congr 1
  have e : x.toNat < 256 := by omega
  simp [Nat.toUInt8, Nat.mod_eq_of_lt e]
  omega
def keyI (dl : Int) (x : It) : Key := (dueS dl x.ar, idB x.id)
def ruleV (nb ps : ByteArray) (mb dl : Int) (p : Option Addr) (n c : Nat) : Value := .agg #[.string nb, .string ps, .int .i64 mb, .int .i64 dl, .slice p n c]

set_option maxHeartbeats 1000000 in
theorem rbefore_any (nb ps : ByteArray) (mb dl : Int) (p : Option Addr) (n c : Nat) (x y : It) (q q2 : Option Addr) (d d2 : Nat) (w : World) (hdl : 0 ≤ dl ∧ dl ≤ 20160)
    (hx : -9223372036854775808 ≤ x.ar ∧ x.ar ≤ 9223372036854775807) (hy : -9223372036854775808 ≤ y.ar ∧ y.ar ≤ 9223372036854775807) (hxb : ∀ j, 0 ≤ x.id j ∧ x.id j ≤ 255) (hyb : ∀ j, 0 ≤ y.id j ∧ y.id j ≤ 255) :
    Calls Tryz.prog 31 #[.agg #[.string nb, .string ps, .int .i64 mb, .int .i64 dl, .slice p n c], .agg (x.cells q d), .agg (y.cells q2 d2)] w fun e w' => e = .returned (.bool (decide (cfK (keyI dl x) (keyI dl y) < 0))) ∧ K0 w w' := by
  refine vc_rbefore nb ps mb dl p n c x.id q x.gs.length d x.d x.by_ x.ct x.fr x.ar y.id q2 y.gs.length d2 y.d y.by_ y.ct y.fr y.ar w _ ?_
  intro n1 n2 n3 W hW
  have k0 : K0 w W := hW.k0 (.refl _ _)
  refine ⟨fun w' => K0 W w', .refl _ _, nb, ps, mb, dl, p, n, c, fun w' h => AtL_block (h.blk (hW.cells 2 rfl) (fun h => h)) rfl, x.id, q, x.gs.length, d, x.d, x.by_, x.ct, x.fr, x.ar, fun w' h => AtL_block (h.blk (hW.cells 1 rfl) (fun h => h)) rfl,
    nb, ps, mb, dl, p, n, c, fun w' h => AtL_block (h.blk (hW.cells 2 rfl) (fun h => h)) rfl, y.id, q2, y.gs.length, d2, y.d, y.by_, y.ct, y.fr, y.ar, fun w' h => AtL_block (h.blk (hW.cells 0 rfl) (fun h => h)) rfl, ?_⟩
  refine ⟨(rdue_any nb ps mb dl p n c x q d W hdl hx).mono fun e w1 ⟨he, hk1⟩ => ⟨_, he, hk1, ⟨(rdue_any nb ps mb dl p n c y q2 d2 w1 hdl hy).mono fun e w2 ⟨he, hk2⟩ => ⟨_, he, .of_k0 (hk1.trans hk2), ?_⟩⟩⟩⟩
  refine ⟨idS x.id, gimp_intro fun _ => ⟨idS_size _, fun W2 h2 => ⟨.inr ⟨n2, 0, rfl, ?_⟩⟩⟩, idS y.id, gimp_intro fun _ => ⟨idS_size _, fun W2 h2 => ⟨.inr ⟨n3, 0, rfl, ?_⟩⟩⟩, fun W2 h2 => ⟨?_, h2.k0 ((k0.trans hk1).trans hk2)⟩⟩
  · rw [idS_cells hxb]; exact (AtL_block (h2.cells 1 rfl) rfl).h
  · rw [idS_cells hyb]; exact (AtL_block (h2.cells 0 rfl) rfl).h
  · have e1 : (idS x.id).toList = idB x.id := by rw [ByteArray.toList_eq]; rfl
    have e2 : (idS y.id).toList = idB y.id := by rw [ByteArray.toList_eq]; rfl
    rw [e1, e2, bytesLess_eq]
    congr 2
    rw [Bool.eq_iff_iff]
    simp only [Bool.or_eq_true, Bool.and_eq_true, decide_eq_true_eq, beq_iff_eq, ← cb_lt, cfK_lt]
    rfl

end Go.Proofs.YtcpjajjocmpkjaaGreatDoor

/- The contract of feedrule's Select. -/
namespace Go.Proofs.YtcpjajjocmpkjaaGreatDoor
open Go.RowKit Go.Maps

set_option maxRecDepth 100000 in
set_option maxHeartbeats 2000000 in
theorem select_any {D : Nat → Prop} {w : World} {b : Nat} {nb ps : ByteArray} {mb dl : Int} {ds : List ByteArray} {es : List Ent} (hf : FeedR D w b nb ps mb dl ds es) (h64 : es.length ≤ 64) (h80 : ∀ e ∈ es, e.els.length ≤ 80) (hl : ds.length ≤ 1073741824) (hdl : 0 ≤ dl ∧ dl ≤ 20160)
    {base : Nat} {p : Option Addr} {n c : Nat} {L : List ItA} (hI : ItR 53 base w p n c L) (hn : n ≤ 1000) (hok : ∀ y ∈ L, y.1.ok ∧ (-9223372036854775808 ≤ y.1.ar ∧ y.1.ar ≤ 9223372036854775807) ∧ ∀ j, 0 ≤ y.1.id j ∧ y.1.id j ≤ 255) (now : Int) :
    Calls Tryz.prog 9 #[.pointer (some ⟨b, 0, none⟩), .slice p n c, .int .i64 now] w fun e w' => ∃ (cs : List Cand) (p' : Option Addr) (c' : Nat),
      cs.Perm (candsOf nb mb dl ds es now (L.map (·.1))) ∧ (∀ (i j : Nat) (x y : Cand), i < j → cs[i]? = some x → cs[j]? = some y → ¬ cfC y x < 0) ∧
      e = .returned (.slice p' (ddS [] (cs.map fun x => idI x.2)).length c') ∧ w'.ownsRow w.heap.size 43 32 (.slice p' (ddS [] (cs.map fun x => idI x.2)).length c') (ddS [] (cs.map fun x => idI x.2)).length ((ddS [] (cs.map fun x => idI x.2)).flatMap byL) ∧ K0 w w' := by
  refine vc_select (some ⟨b, 0, none⟩) p n c now w _ ?_
  have hLn := hI.len
  refine ⟨fun vs w' => ∃ (k : Nat) (p1 : Option Addr) (c1 : Nat), vs = [.int .i64 (k : Int), .slice p1 (candsOf nb mb dl ds es now ((L.take k).map (·.1))).length c1] ∧ k ≤ L.length ∧ w'.ownsRow w.heap.size 75 33 (.slice p1 (candsOf nb mb dl ds es now ((L.take k).map (·.1))).length c1) (candsOf nb mb dl ds es now ((L.take k).map (·.1))).length ((candsOf nb mb dl ds es now ((L.take k).map (·.1))).flatMap candL) ∧ K0 w w',
    fun vs _ => (match vs with | .int _ x :: _ => L.length - x.toNat | _ => 0), ⟨0, none, 0, rfl, by omega, World.ownsRow_nil _ _ _ _, .refl _ _⟩, ?_⟩
  rintro i p1 n1 c1 w1 ⟨k, p1', c1', hv, hk, ho, k1⟩
  simp only [List.cons.injEq, Value.int.injEq, Value.slice.injEq, true_and, and_true] at hv
  obtain ⟨rfl, rfl, rfl, rfl⟩ := hv
  generalize hcs : candsOf nb mb dl ds es now ((L.take k).map (·.1)) = cs at ho
  have hcl : cs.length ≤ k := by
    rw [← hcs]
    refine Nat.le_trans (candsOf_len _ _ _ _ _ _ _) ?_
    rw [List.length_map, List.length_take]; omega
  refine bsp_intro (fun hlt => ?_) (fun hge => ?_)
  · have hlt : k < L.length := by simp at hlt; omega
    obtain ⟨y, hy⟩ : ∃ y, L[k]? = some y := ⟨_, List.getElem?_eq_getElem hlt⟩
    have hyL : y ∈ L := List.mem_of_getElem? hy
    obtain ⟨hxok, har, hid⟩ := hok y hyL
    have htk : (L.take (k + 1)).map (·.1) = (L.take k).map (·.1) ++ [y.1] := by rw [List.take_add_one, hy, List.map_append]; rfl
    have I1 := hI.kp k1
    obtain ⟨g, rfl, hat⟩ := I1.at_ hy
    obtain ⟨_, _, hgs, _, _⟩ := own_strP (I1.gs y hyL)
    show (0 ≤ (k : Int) ∧ (k : Int) < (n : Int)) ∧ _
    rw [Int.toNat_natCast]
    refine ⟨by omega, y.1.id, y.2.1, y.1.gs.length, y.2.2, y.1.d, y.1.by_, y.1.ct, y.1.fr, y.1.ar, hat, fun n2 w2 hn2 => ⟨WrL_block hn2.block (by simp), fun w3 hp3 => ?_⟩⟩
    have b3 : w3.heap[n2]? = some (.cells (y.1.cells y.2.1 y.2.2) 53 (0, 0)) := hp3.full hn2.block rfl
    have k13 : K0 w1 w3 := (hn2.kp (fun _ => False)).fresh hp3.kp (fun i hi e => by have := hn2.ge; omega)
    have k3 : K0 w w3 := k1.trans k13
    refine ⟨y.1.id, y.2.1, y.1.gs.length, y.2.2, y.1.d, y.1.by_, y.1.ct, y.1.fr, y.1.ar, AtL_block b3 rfl, ⟨(due_any (x := y.1) (p := y.2.1) (c := y.2.2) (hf.kp k3 (fun _ _ _ h => h)) (hgs.kp k13 (fun _ _ _ h => h)) h64 h80 hl hxok hdl har).mono fun e w4 ⟨he, hk4⟩ => ?_⟩⟩
    have k14 : K0 w1 w4 := k13.trans hk4
    have k4 : K0 w w4 := k1.trans k14
    have ho4 := owns_kp ho k14 (fun _ _ h => h)
    have b4 := hk4.blk b3 (fun h => h)
    have f1 : IntKind.i64.wrap ((k : Int) + 1) = ((k + 1 : Nat) : Int) := by rw [wr64 (by omega) (by omega)]; omega
    rw [f1]
    have hnext : candsOf nb mb dl ds es now ((L.take (k + 1)).map (·.1)) = cs ++ (if rsnS nb mb ds es y.1 = 0 ∧ dueS dl y.1.ar ≤ now then [(dueS dl y.1.ar, y.1.id)] else []) := by
      rw [htk, ← hcs]
      unfold candsOf
      rw [List.filterMap_append]
      congr 1
      by_cases h : rsnS nb mb ds es y.1 = 0 ∧ dueS dl y.1.ar ≤ now
      · simp [h]
      · simp [h]
    have stay : ¬ (rsnS nb mb ds es y.1 = 0 ∧ dueS dl y.1.ar ≤ now) → (∃ (k' : Nat) (p9 : Option Addr) (c9 : Nat), ([Value.int .i64 ((k + 1 : Nat) : Int), .slice p1 cs.length c1] : List Value) = [.int .i64 (k' : Int), .slice p9 (candsOf nb mb dl ds es now ((L.take k').map (·.1))).length c9] ∧ k' ≤ L.length ∧ w4.ownsRow w.heap.size 75 33 (.slice p9 (candsOf nb mb dl ds es now ((L.take k').map (·.1))).length c9) (candsOf nb mb dl ds es now ((L.take k').map (·.1))).length ((candsOf nb mb dl ds es now ((L.take k').map (·.1))).flatMap candL) ∧ K0 w w4) := fun hno => by
      rw [if_neg hno, List.append_nil] at hnext
      exact ⟨k + 1, p1, c1, by rw [hnext], by omega, by rw [hnext]; exact ho4, k4⟩
    by_cases hr : rsnS nb mb ds es y.1 = 0
    · rw [if_pos hr] at he
      refine ⟨_, _, he, bsp_intro (fun hd => ?_) (fun hd => ⟨stay ?_, by simp only [Int.toNat_natCast]; omega⟩)⟩
      · have hd : dueS dl y.1.ar ≤ now := by simpa using hd
        rw [if_pos ⟨hr, hd⟩] at hnext
        refine ⟨y.1.id, AtL_block b4 rfl, fun n5 w5 hn5 => ?_⟩
        refine app1 ho4 k4.size hn5 rfl (candL_one (dueS dl y.1.ar, y.1.id)) (by omega) (by omega) (fun p6 c6 w6 ho6 hk6 _ => ⟨⟨k + 1, p6, c6, ?_, by omega, ?_, ?_⟩, by simp only [Int.toNat_natCast]; omega⟩)
        · first | (rw [hnext, List.length_append]; done) | (rw [hnext, List.length_append]; rfl)
        · rw [hnext, List.length_append, List.flatMap_append]
          exact ho6
        · exact k4.fresh hk6 (fun i hi e => by have := own_ge ho4 e; omega)
      · rintro ⟨_, h⟩
        have hd : ¬ dueS dl y.1.ar ≤ now := by simpa using hd
        exact hd h
    · rw [if_neg hr] at he
      refine ⟨_, _, he, bsp_intro (fun h => absurd h (by simp)) (fun _ => ⟨stay (fun h => hr h.1), by simp only [Int.toNat_natCast]; omega⟩)⟩
  · have hkL : k = L.length := by simp at hge; omega
    subst hkL
    rw [List.take_length] at hcs
    refine ⟨(sort_any cs p1 cs.length c1 w1 ho (by omega)).mono fun e w2 ⟨he, cs', hperm, hsort, hcell, hk2⟩ => ⟨he, fun n3 w3 hn3 => ?_⟩⟩
    have k2 : K0 w w2 := k1.fresh hk2 (fun i hi e => by have := own_ge ho e; omega)
    have k3 : K0 w2 w3 := hn3.kp _
    have hcl' : cs'.length = cs.length := hperm.length_eq
    have hbd : ∀ x ∈ cs', ∀ j, 0 ≤ x.2 j ∧ x.2 j ≤ 255 := fun x hx j => by
      have hx' : x ∈ cs := hperm.mem_iff.1 hx
      rw [← hcs] at hx'
      unfold candsOf at hx'
      obtain ⟨z, hz, hzx⟩ := List.mem_filterMap.1 hx'
      obtain ⟨y, hyL, rfl⟩ := List.mem_map.1 hz
      split at hzx
      · simp at hzx
        rw [← hzx]
        exact (hok y hyL).2.2 j
      · cases hzx
    refine ⟨fun vs w' => ∃ (k : Nat) (acc : List (List Int)) (p5 : Option Addr) (c5 : Nat), vs = [.int .i64 (k : Int), .slice p5 acc.length c5] ∧ k ≤ cs'.length ∧ acc.length ≤ k ∧ ddS acc ((cs'.drop k).map fun x => idI x.2) = ddS [] (cs'.map fun x => idI x.2) ∧ MapB Tryz.prog 43 byA w' n3 (acc.map fun x => (x, Value.bool true)) ∧ w'.ownsRow (n3 + 1) 43 32 (.slice p5 acc.length c5) acc.length (acc.flatMap byL) ∧ K0 w2 w',
      fun vs _ => (match vs with | .int _ x :: _ => cs'.length - x.toNat | _ => 0), ⟨0, [], none, 0, rfl, by omega, by simp, rfl, hn3.map, World.ownsRow_nil _ _ _ _, k3⟩, ?_⟩
    rintro i p5' n5 c5' w4 ⟨k, acc, p5, c5, hv, hk, hak, hdd, hm4, ho4, k4⟩
    simp only [List.cons.injEq, Value.int.injEq, Value.slice.injEq, true_and, and_true] at hv
    obtain ⟨rfl, rfl, rfl, rfl⟩ := hv
    refine bsp_intro (fun hlt => ?_) (fun hge => ?_)
    · have hlt : k < cs'.length := by simp at hlt; omega
      obtain ⟨y, hy⟩ : ∃ y, cs'[k]? = some y := ⟨_, List.getElem?_eq_getElem hlt⟩
      have hdr : cs'.drop k = y :: cs'.drop (k + 1) := by
        rw [List.drop_eq_getElem_cons hlt]
        rw [List.getElem?_eq_getElem hlt] at hy
        simp at hy
        rw [hy]
      rw [hdr, List.map_cons] at hdd
      obtain ⟨g, rfl, hc⟩ := hcell k y hy
      have hyb := hbd y (List.mem_of_getElem? hy)
      have hkey := idKey (idI_len y.2) (idI_bd hyb)
      show (0 ≤ (k : Int) ∧ (k : Int) < (cs.length : Int)) ∧ _
      rw [Int.toNat_natCast]
      refine ⟨by omega, y.1, y.2, ⟨At_of _ _ fun j v hv => ?_⟩, fun n6 w5 hn5 => ⟨WrL_block hn5.block (by simp), fun w6 hp6 => ?_⟩⟩
      · rw [Nat.zero_add]; exact k4.cell' (hc j v hv) (fun h => h)
      have b6 : w6.heap[n6]? = some (.cells (candL y).toArray 75 (0, 0)) := hp6.full hn5.block rfl
      have g6 : w4.heap.size ≤ n6 := hn5.ge
      have k46 : K0 w4 w6 := (hn5.kp (fun _ => False)).fresh hp6.kp (fun i hi e => by omega)
      have hm6 := hm4.kp k46 (fun h => h)
      have ho6 := owns_kp ho4 k46 (fun _ _ h => h)
      have k6 : K0 w2 w6 := k4.trans k46
      have f1 : IntKind.i64.wrap ((k : Int) + 1) = ((k + 1 : Nat) : Int) := by rw [wr64 (by omega) (by omega)]; omega
      rw [f1]
      have hlook := MapB.look byA_inj hm6 idKeyed Tryz.underlying81 (zeroBool w6) hkey false
      rw [aget_trues] at hlook
      have hn36 : n3 < w6.heap.size := hm6.lt
      have hn34 : n3 < w4.heap.size := hm4.lt
      have hn32 : w2.heap.size ≤ n3 := hn3.ge
      refine ⟨y.2, AtL_block b6 rfl, decide (idI y.2 ∈ acc), ?_, ?_⟩
      · by_cases h : idI y.2 ∈ acc
        · simp only [h, if_true, Option.getD_some] at hlook
          simp only [h, decide_true]
          exact hlook
        · simp only [h, if_false, Option.getD_none] at hlook
          simp only [h, decide_false]
          exact hlook
      refine bsp_intro (fun h => ?_) (fun h => ?_)
      · have h : ¬ idI y.2 ∈ acc := by simpa using h
        rw [ddS_cons, if_neg h] at hdd
        obtain ⟨w7, hu, hm7, hk7⟩ := MapB.upd byA_inj hm6 idKeyed Tryz.underlying81 hkey (.bool true)
        have b7 := hk7.blk b6 (fun e => by omega)
        have hset : aset (acc.map fun x => (x, Value.bool true)) (idI y.2) (.bool true) = (acc ++ [idI y.2]).map fun x => (x, Value.bool true) := by
          rw [aset_new (fun q hq e => by
            obtain ⟨x, hx, rfl⟩ := List.mem_map.1 hq
            exact h (by rw [← e]; exact hx)), List.map_append]
          rfl
        rw [hset] at hm7
        have ho7 := owns_kp ho6 hk7 (fun i hi e => by have := own_ge ho6 hi; omega)
        have k7 : K0 w2 w7 := k6.fresh hk7 (fun i hi e => by omega)
        have s7 := hk7.size
        refine ⟨y.2, AtL_block b6 rfl, w7, hu, y.2, AtL_block b7 rfl, fun n8 w8 hn8 => ?_⟩
        refine app1 ho7 (by omega) hn8 rfl (fun u hu => by
          have hu : u ∈ arrI .u8 y.2 32 0 := hu
          rw [arrI_idI] at hu
          obtain ⟨x, _, rfl⟩ := List.mem_map.1 hu
          rfl) (by omega) (by omega) (fun p9 c9 w9 ho9 hk9 _ => ⟨⟨k + 1, acc ++ [idI y.2], p9, c9, ?_, by omega, ?_, hdd, hm7.kp hk9 (fun e => by have := own_ge ho7 e; omega), ?_, ?_⟩, by simp only [Int.toNat_natCast]; omega⟩)
        · rw [List.length_append]; rfl
        · rw [List.length_append]; simp; omega
        · rw [List.length_append, List.flatMap_append]
          have : ([idI y.2].flatMap byL) = arrI .u8 y.2 32 0 := by rw [arrI_idI]; simp [byL]
          rw [this]
          exact ho9
        · exact k7.fresh hk9 (fun i hi e => by have := own_ge ho7 e; omega)
      · have h : idI y.2 ∈ acc := by simpa using h
        rw [ddS_cons, if_pos h] at hdd
        exact ⟨⟨k + 1, acc, p5', c5', rfl, by omega, by omega, hdd, hm6, ho6, k6⟩, by simp only [Int.toNat_natCast]; omega⟩
    · have : k = cs'.length := by simp at hge; omega
      subst this
      rw [List.drop_length] at hdd
      have hdd : acc = ddS [] (cs'.map fun x => idI x.2) := hdd
      refine ⟨cs', p5', c5', ?_, hsort, by rw [← hdd], ?_, k2.trans k4⟩
      · rw [hcs]; exact hperm
      · rw [← hdd]
        exact own_base ho4 (by have := hn3.ge; have := k2.size; omega)

end Go.Proofs.YtcpjajjocmpkjaaGreatDoor
