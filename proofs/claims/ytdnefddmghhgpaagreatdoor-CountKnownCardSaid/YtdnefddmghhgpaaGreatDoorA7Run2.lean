import Derived.Test.YtdnefddmghhgpaaGreatDoorA7Run1
import Derived.Maps.RangeRun
namespace AM
open Go Go.RowKit
set_option linter.unusedVariables false
set_option linter.unusedSimpArgs false
variable {P : Program} {φ : Phi} {tm : T V} {a : Act} {w : World} {w0 : Base} {σ σ' : St} {G B : Nat} {call : CallT}

theorem compOper_spec {n : Nat} {ops : Array Oper} {o : Oper} {ao : AOper} (hc : compOper P n ops o = some ao) : compOp P ops o = some ao.op ∧ ao.dst = o.dst ∧ okDst n o.dst := by
  unfold compOper at hc
  split at hc
  · rename_i hd
    have hok : okDst n o.dst := by
      intro t ht; rw [ht] at hd; simpa [dstOk] using hd
    split at hc
    · cases hc
    · rename_i op hop
      split at hc
      · cases hc; exact ⟨hop, rfl, hok⟩
      · split at hc
        · cases hc; exact ⟨hop, rfl, hok⟩
        · cases hc
  · cases hc

theorem put_self_defers (a : Act) (d : Option Tmp) (x : Value) : ({ a with defers := a.defers } : Act).put d x = a.put d x := rfl

theorem allL_mem {α β : Type} {f : α → Option (List β)} : ∀ {l : List α} {outs : List β}, allL f l = some outs → ∀ x ∈ l, ∃ os, f x = some os ∧ ∀ o ∈ os, o ∈ outs
  | [], outs, h, x, hx => by cases hx
  | a :: l, outs, h, x, hx => by
    unfold allL at h
    split at h
    · cases h
    · rename_i os hos
      split at h
      · cases h
        rcases List.mem_cons.1 hx with rfl | hx
        · exact ⟨_, hos, fun o ho => ho⟩
        · cases hx
      · rename_i y l'
        split at h
        · rename_i q hq
          cases h
          rcases List.mem_cons.1 hx with rfl | hx
          · exact ⟨_, hos, fun o ho => List.mem_append_left _ ho⟩
          · obtain ⟨os', h1, h2⟩ := allL_mem hq x hx
            exact ⟨os', h1, fun o ho => List.mem_append_right _ (h2 o ho)⟩
        · cases h

theorem allO_spec {α β : Type} {r : Option (List α)} {f : α → Option (List β)} {outs : List β} (h : allO r f = some outs) : ∃ l, r = some l ∧ ∀ x ∈ l, ∃ os, f x = some os ∧ ∀ o ∈ os, o ∈ outs := by
  cases r with
  | none => cases h
  | some l => exact ⟨l, rfl, allL_mem h⟩

theorem next_sound {ro : Option Nat} {o : Oper} {x : Opd} {ds : Dfs} {outs : List (V × St)} {ops : Array Oper} (hc : compOp P ops o = some (.nextM x)) (hv : nextN (x.eval tm) σ = some outs) (hGP : P.globals.size ≤ G)
    (hT : TR φ tm a x.tmps) (hD : DR P φ ds a.defers) (hR : Rel G B w0 φ σ w) {next : Act → World → Prop} {Q : Exit → Act → World → Prop}
    (k : ∀ q ∈ outs, ∀ φ' x w' dfs, φ.le φ' → Rel G B w0 φ' q.2 w' → VR φ' q.1 x → DR P φ' ds dfs → next (({ a with defers := dfs } : Act).put o.dst x) w') : o.wpIn (fw ro) 0 P a w next Q := by
  have hG : GR P φ := fun g hg => (hR.glob g (by omega)).2
  obtain ⟨dst, op', type, pos, after, guard⟩ := o
  have hcomp : ∃ y, op' = .next y false ∧ opd P y = some x := by
    replace hc := compOp_spec hc
    rcases hc with hc | hc
    · exact (compOp0_notX rfl hc).elim
    · rcases hc with hc | hc | hc
      · unfold compM at hc
        repeat' (split at hc)
        all_goals (cases hc; done)
      · unfold compC at hc
        repeat' (split at hc)
        all_goals (cases hc; done)
      unfold compX at hc
      split at hc
      · split at hc <;> cases hc
      · split at hc <;> cases hc
      · rename_i z heq
        simp only at heq
        subst heq
        split at hc
        · rename_i u hu; cases hc; exact ⟨z, rfl, hu⟩
        · cases hc
      all_goals (repeat' (split at hc))
      all_goals (cases hc; done)
  obtain ⟨y, rfl, hy⟩ := hcomp
  have hnd : ro = none ∨ ∀ c, (Oper.mk dst (.next y false) type pos after guard).op ≠ .defer c := .inr (by simp)
  have r1 := opd_rel (tm := tm) (a := a) hG hy hT
  unfold nextN at hv
  split at hv
  · rename_i r e0
    rw [e0] at r1
    obtain ⟨b, n, hb, hy'⟩ := r1
    split at hv
    · rename_i since seen last ho
      cases hv
      obtain ⟨hB, s', e', l', hh⟩ := hR.obj r _ b n ho hb
      have hrun : (Instr.next (.pointer (some ⟨b, 0, none⟩)) false type).run P w = .ok (.tuple #[.bool false]) w := by
        simp [Instr.next, getObj, Sem.run_bind, Sem.run, hh, Result.andThen]
      refine Oper.wpI_value hnd (x := .tuple #[.bool false]) (w' := w) (by simp [execOp, hy', hrun]) (k _ (List.mem_singleton.2 rfl) φ _ w a.defers (Phi.le.refl _) hR ⟨_, rfl, LR.cons rfl LR.nil⟩ hD)
    · rename_i m since seen last ho
      obtain ⟨hB, rb, kk, e', hm, hh, hs⟩ := hR.obj r _ b n ho hb
      split at hv
      · rename_i es bs ck hmo
        obtain ⟨hBm, M, hM, hER, hbs⟩ := hR.mapObj hmo hm
        unfold iterLeft at hv
        by_cases hcond : since ≤ last ∧ bs.all (fun b => decide (b < since)) = true
        · rw [if_pos hcond] at hv
          have hold : ∀ x ∈ M.toList, x.born < since := by
            intro x hx
            have := List.all_eq_true.1 hcond.2 x.born (by rw [← hbs]; exact List.mem_map_of_mem hx)
            simpa using this
          have hset : ∀ (w1 : World) (e : MapEntry) , (w1 = w ∨ w1 = w.drew) → Rel G B w0 φ { σ with objs := σ.objs.set r (.iter (some m) since (seen ++ [e.born]) ck) } (ChangeMaps.setBlock w1 b (.mapIter (some rb) since (e'.push e.born) ck)) := by
            intro w1 e hw1
            have hR1 : Rel G B w0 φ σ w1 := by rcases hw1 with rfl | rfl; exact hR; exact hR.drew
            exact hR1.setObj ho rfl rfl hb hB rfl (fun hs' => ⟨hB, rb, kk, _, hm, hs', by simp [hs]⟩)
          have hidx : ∀ e ∈ (leftOf M e').toList, ∃ i, M.toList[i]? = some e ∧ i ∈ (List.range bs.length).filter fun i => match bs[i]? with | some b => !seen.contains b | none => false := by
            intro e he
            unfold leftOf at he
            simp only [Array.toList_filter, List.mem_filter] at he
            obtain ⟨hmem, hns⟩ := he
            obtain ⟨i, hi, hie⟩ := List.getElem_of_mem hmem
            refine ⟨i, by rw [List.getElem?_eq_getElem hi, hie], ?_⟩
            have hbi : bs[i]? = some e.born := by rw [← hbs, List.getElem?_map, List.getElem?_eq_getElem hi, hie]; rfl
            have hlt : i < bs.length := by
              rcases Nat.lt_or_ge i bs.length with q | q
              · exact q
              · rw [List.getElem?_eq_none q] at hbi; cases hbi
            rw [List.mem_filter]
            refine ⟨List.mem_range.2 hlt, ?_⟩
            simp only [hbi]
            rw [← hs]; simpa using hns
          generalize hl : ((List.range bs.length).filter fun i => match bs[i]? with | some b => !seen.contains b | none => false) = l at hv hidx
          rcases run_next_at (P := P) w type b rb since last e' M ck hh hM hold hcond.1 with ⟨h0, hrun⟩ | ⟨e, he, w1, hw1, hrun⟩
          · have hl0 : l = [] := by
              cases l with
              | nil => rfl
              | cons i l' =>
                exfalso
                have hi : i ∈ ((List.range bs.length).filter fun i => match bs[i]? with | some b => !seen.contains b | none => false) := by rw [hl]; exact List.mem_cons_self
                rw [List.mem_filter] at hi
                obtain ⟨_, hi⟩ := hi
                cases hbi : bs[i]? with
                | none => rw [hbi] at hi; cases hi
                | some bb =>
                  rw [hbi] at hi
                  rw [← hbs, List.getElem?_map] at hbi
                  cases hMi : M.toList[i]? with
                  | none => rw [hMi] at hbi; cases hbi
                  | some ee =>
                    rw [hMi] at hbi; simp at hbi; subst hbi
                    have : ee ∈ (leftOf M e').toList := by
                      unfold leftOf
                      simp only [Array.toList_filter, List.mem_filter]
                      refine ⟨List.mem_of_getElem? hMi, ?_⟩
                      rw [← hs] at hi; simpa using hi
                    have hsz : 0 < (leftOf M e').toList.length := List.length_pos_of_mem this
                    simp at hsz; omega
            subst hl0
            cases hv
            exact Oper.wpI_value hnd (x := .tuple #[.bool false]) (w' := w) (by simp [execOp, hy', hrun]) (k _ (List.mem_singleton.2 rfl) φ _ w a.defers (Phi.le.refl _) hR ⟨_, rfl, LR.cons rfl LR.nil⟩ hD)
          · obtain ⟨i, hi1, hi2⟩ := hidx e he
            have hne : l ≠ [] := by rintro rfl; cases hi2
            have hv' : allL (fun i => match es[i]?, bs[i]? with
              | some (k, v), some b => some [(V.tuple [.bool true, k, v], { σ with objs := σ.objs.set r (.iter (some m) since (seen ++ [b]) ck) })]
              | _, _ => none) l = some outs := by
              cases l with
              | nil => exact (hne rfl).elim
              | cons => exact hv
            obtain ⟨os, hos, hsub⟩ := allL_mem hv' i hi2
            have hbi : bs[i]? = some e.born := by rw [← hbs, List.getElem?_map, hi1]; rfl
            have hesi : ∃ k v, es[i]? = some (k, v) ∧ VR φ k e.key ∧ VR φ v e.val := by
              have hlen := hER.1
              have hilt : i < M.toList.length := by
                rcases Nat.lt_or_ge i M.toList.length with q | q
                · exact q
                · rw [List.getElem?_eq_none q] at hi1; cases hi1
              have hie : i < es.length := by omega
              obtain ⟨e2, he2, p1, p2⟩ := hER.2 i es[i].1 es[i].2 (by simp [hie])
              rw [hi1] at he2; cases he2
              exact ⟨_, _, by simp [hie], p1, p2⟩
            obtain ⟨kk', vv', hes, hk1, hk2⟩ := hesi
            rw [hes, hbi] at hos
            cases hos
            exact Oper.wpI_value hnd (x := .tuple #[.bool true, e.key, e.val]) (by simp [execOp, hy', hrun])
              (k _ (hsub _ (List.mem_singleton.2 rfl)) φ _ _ a.defers (Phi.le.refl _) (hset w1 e hw1) ⟨_, rfl, LR.cons rfl (LR.cons hk1 (LR.cons hk2 LR.nil))⟩ hD)
        · rw [if_neg hcond] at hv; cases hv
      · cases hv
    · cases hv
  · cases hv

theorem evalN_sound {call : CallN} (hcall : CallSound P G call) {ro : Option Nat} {o : Oper} {op : AOp} {ds : Dfs} {outs : List (V × Dfs × St)} {ops : Array Oper} (hc : compOp P ops o = some op) (hv : evalN call op tm ds σ = some outs) (hGP : P.globals.size ≤ G)
    (hT : TR φ tm a op.tmps) (hD : DR P φ ds a.defers) (hP : w0.P = P) (hnd : ro = none ∨ ∀ c, o.op ≠ .defer c) (hR : Rel G B w0 φ σ w) {next : Act → World → Prop} {Q : Exit → Act → World → Prop}
    (k : ∀ q ∈ outs, ∀ φ' x w' dfs, φ.le φ' → Rel G B w0 φ' q.2.2 w' → VR φ' q.1 x → DR P φ' q.2.1 dfs → next (({ a with defers := dfs } : Act).put o.dst x) w') : o.wpIn (fw ro) 0 P a w next Q := by
  have hG : GR P φ := fun g hg => (hR.glob g (by omega)).2
  have fin : ∀ {l : List (V × St)}, outs = l.map (fun r => (r.1, ds, r.2)) → ∀ e w'', CPosts G B w0 φ l e w'' → ∃ x, e = .returned x ∧ next (a.put o.dst x) w'' := by
    rintro l rfl e w'' ⟨q, hq, φ', x, rfl, h1, h2, h3⟩
    exact ⟨x, rfl, k (q.1, ds, q.2) (List.mem_map.2 ⟨q, hq, rfl⟩) φ' x w'' a.defers h1 h2 h3 (hD.mono h1)⟩
  unfold evalN at hv
  split at hv
  · rename_i g xs
    split at hv
    · rename_i l hl
      obtain ⟨dst, op', type, pos, after, guard⟩ := o
      obtain ⟨args, ats, rfl, hxs⟩ := comp_call hc
      have hr := opds_rel (tm := tm) (a := a) hG hxs hT
      have hr' : LR φ (xs.map (·.eval tm)) (args.map a.eval).toList := by simpa using hr
      have fin := fin (l := l) (by simpa using hv.symm)
      rcases hcall.plain g _ σ _ hl B w0 φ w _ hP hR hr' with ⟨he, hcs⟩ | ⟨x, w', he, hp⟩
      · refine Oper.wpI_enter hnd (g := g) (args := args.map a.eval) (w' := w) ?_ hcs fin
        simp [execOp, resolve, Deferred.ofValue, Act.eval, invoke, he]
      · obtain ⟨x', hx', hk⟩ := fin _ _ hp
        cases hx'
        refine Oper.wpI_value hnd (x := x) (w' := w') ?_ hk
        simp [execOp, resolve, Deferred.ofValue, Act.eval, invoke, he]
    · cases hv
  · rename_i g xs
    split at hv
    · rename_i f first cap hf
      split at hv
      · rename_i l hl
        obtain ⟨dst, op', type, pos, after, guard⟩ := o
        obtain ⟨y, args, ats, rfl, hy, hxs⟩ := comp_callv hc
        have hr0 := opd_rel (tm := tm) (a := a) hG hy hT.left
        have hr := opds_rel (tm := tm) (a := a) hG hxs hT.right
        rw [hf] at hr0
        obtain ⟨F, C, hF, hrF, hrC⟩ := hr0
        have hr' : LR φ (first ++ xs.map (·.eval tm) ++ cap) (F ++ args.map a.eval ++ C).toList := by
          simp only [Array.toList_append, Array.toList_map]
          exact LR.append (LR.append hrF hr) hrC
        have fin := fin (l := l) (by simpa using hv.symm)
        rcases hcall.plain f _ σ _ hl B w0 φ w _ hP hR hr' with ⟨he, hcs⟩ | ⟨x, w', he, hp⟩
        · refine Oper.wpI_enter hnd (g := f) (args := F ++ args.map a.eval ++ C) (w' := w) ?_ hcs fin
          simp only [execOp, resolve, Deferred.ofValue, hF, invoke, Sem.run_bind, Sem.run_pure, Result.andThen_ok]
          exact he
        · obtain ⟨x', hx', hk⟩ := fin _ _ hp
          cases hx'
          refine Oper.wpI_value hnd (x := x) (w' := w') ?_ hk
          simp only [execOp, resolve, Deferred.ofValue, hF, invoke, Sem.run_bind, Sem.run_pure, Result.andThen_ok]
          exact he
      · cases hv
    · rename_i l hf
      split at hv
      · rename_i ol hl
        obtain ⟨dst, op', type, pos, after, guard⟩ := o
        obtain ⟨y, args, ats, rfl, hy, hxs⟩ := comp_callv hc
        have hr0 := opd_rel (tm := tm) (a := a) hG hy hT.left
        have hr := opds_rel (tm := tm) (a := a) hG hxs hT.right
        rw [hf] at hr0
        obtain ⟨b, n, hb, hF⟩ := hr0
        have hr' : LR φ (xs.map (·.eval tm)) (args.map a.eval).toList := by simpa using hr
        obtain ⟨f, tmps, asg, body, hy2, hrd⟩ := hcall.round l _ σ _ hl B w0 φ w _ b n hP hb hR hr'
        have fin := fin (l := ol) (by simpa using hv.symm)
        refine Oper.wpI_round hnd (l := b) (f := f) (tmps := tmps) (asg := asg) (body := body) (w' := w) ?_ hrd fin
        simp [execOp, resolve, Deferred.ofValue, hF, invoke, hy2]
      · cases hv
    · cases hv
  · rename_i tbl g xs
    split at hv
    · rename_i t v1 hf
      split at hv
      · rename_i f hft
        split at hv
        · rename_i l hl
          obtain ⟨dst, op', type, pos, after, guard⟩ := o
          obtain ⟨r, name, args, ats, rfl, hy, hxs, rfl⟩ := comp_invoke hc
          have hr0 := opd_rel (tm := tm) (a := a) hG hy hT.left
          have hr := opds_rel (tm := tm) (a := a) hG hxs hT.right
          rw [hf] at hr0
          obtain ⟨X, hX, hrX⟩ := hr0
          have hr' : LR φ (v1 :: xs.map (·.eval tm)) (#[X] ++ args.map a.eval).toList := by
            simp only [Array.toList_append, Array.toList_map]
            exact LR.cons hrX hr
          have hm := method_run (P := P) hft X w
          have hrun := invoke_run (P := P) (w := w) (a := a) (dst := dst) (type := type) (pos := pos) (after := after) (guard := guard) (ats := ats) (args := args) hX hm
          have fin := fin (l := l) (by simpa using hv.symm)
          rcases hcall.plain f _ σ _ hl B w0 φ w _ hP hR hr' with ⟨he, hcs⟩ | ⟨x, w', he, hp⟩
          · exact Oper.wpI_enter hnd (g := f) (args := #[X] ++ args.map a.eval) (w' := w) (by rw [hrun]; exact he) hcs fin
          · obtain ⟨x', hx', hk⟩ := fin _ _ hp
            cases hx'
            exact Oper.wpI_value hnd (x := x) (w' := w') (by rw [hrun]; exact he) hk
        · cases hv
      · cases hv
    · cases hv
  · rename_i x
    split at hv
    · rename_i l hl
      cases hv
      exact next_sound hc hl hGP hT hD hR (fun q hq φ' y w' dfs h1 h2 h3 h4 => k (q.1, ds, q.2) (List.mem_map.2 ⟨q, hq, rfl⟩) φ' y w' dfs h1 h2 h3 h4)
    · cases hv
  · split at hv
    · rename_i r hr
      cases hv
      obtain ⟨v, ds', σ'⟩ := r
      exact evalOp_sound hcall.det hc hr hGP hT hD hP hnd hR (fun φ' x w' dfs h1 h2 h3 h4 => k (v, ds', σ') (List.mem_singleton.2 rfl) φ' x w' dfs h1 h2 h3 h4)
    · cases hv

theorem runOps_sound {call : CallN} (hcall : CallSound P G call) (hGP : P.globals.size ≤ G) (hP : w0.P = P) {ro : Option Nat} {n : Nat} {ops : Array Oper} : ∀ (l : List Oper) (al : List AOper), compOpers P n ops l = some al → (ro = none ∨ ∀ o ∈ l, ∀ c, o.op ≠ .defer c) →
    ∀ {fr : Fr} {σ : St} {outs : List (Fr × St)}, runOps call al fr σ = some outs →
    ∀ {φ : Phi} {a : Act} {w : World}, Rel G B w0 φ σ w → FR P n φ fr a → ∀ {Q : Exit → Act → World → Prop}, (∀ q ∈ outs, ∀ φ' a' w', φ.le φ' → Rel G B w0 φ' q.2 w' → FR P n φ' q.1 a' → Q .normal a' w') → wpListIn (fw ro) 0 P ops Q l a w
  | [], al, hc, hnd, fr, σ, outs, hr, φ, a, w, hR, hF, Q, hQ => by
    simp [compOpers] at hc; subst hc
    simp [runOps] at hr; subst hr
    exact hQ (fr, σ) (List.mem_singleton.2 rfl) φ a w (Phi.le.refl _) hR hF
  | o :: r, al, hc, hnd, fr, σ, outs, hr, φ, a, w, hR, hF, Q, hQ => by
    simp only [compOpers] at hc
    split at hc
    · rename_i ao al' ho hr'
      simp at hc; subst hc
      obtain ⟨h1, h2, h3⟩ := compOper_spec ho
      have hw := wanted_rel (tm := fr.tmps) (a := a) ho (fun t _ => hF.ts t)
      have hnd1 : ro = none ∨ ∀ c, o.op ≠ .defer c := hnd.imp id (fun h => h o List.mem_cons_self)
      have hnd2 : ro = none ∨ ∀ o ∈ r, ∀ c, o.op ≠ .defer c := hnd.imp id (fun h o ho => h o (List.mem_cons_of_mem _ ho))
      simp only [runOps] at hr
      unfold wpListIn
      rw [hw]
      split at hr
      · rename_i hwant
        rw [if_pos hwant]
        obtain ⟨l, hl, hall⟩ := allO_spec hr
        refine evalN_sound hcall h1 hl hGP (hF.tr _) hF.ds hP hnd1 hR ?_
        intro q hq φ1 x w1 dfs hle hR1 hvx hds
        have hF1 := (hF.mono hle).put (d := o.dst) h3 hvx hds
        obtain ⟨os, hos, hsub⟩ := hall q hq
        rw [h2] at hos
        exact runOps_sound hcall hGP hP r al' hr' hnd2 hos hR1 hF1 (fun p hp φ' a' w' hle' => hQ p (hsub p hp) φ' a' w' (hle.trans hle'))
      · rename_i hwant
        rw [if_neg hwant]
        have hF1 := hF.put (d := o.dst) h3 VR.undef hF.ds
        rw [h2] at hr
        exact ⟨fun _ _ => trivial, runOps_sound hcall hGP hP r al' hr' hnd2 hr hR hF1 hQ⟩
    · cases hc

/-! ### control -/
def toExit : Ex → Exit
  | .normal => .normal
  | .exit id => .exit id
  | .goto l => .goto l
  | .ret => .ret

/-- a frame: of a function, or (rd) of a round -/
structure OkB (rd : Bool) (b : Frame) (cs : List Frame) : Prop where
  quiet : rd = false → ∀ fr : Frame, fr.kind = b.kind → tryRecover fr cs = none
  plain : rd = false → b.roundOf = none

/-- arriving, in the model's own steps -/
abbrev ArrR (P : Program) (m : Machine) (b : Frame) (k : List Item) (cs : List Frame) (e : Exit) (a : Act) (w : World) : Prop := ArrivesIn (Machine.fenced P (fw b.roundOf)) P m b k cs e a w
abbrev StepsR (P : Program) (b : Frame) (m m' : Machine) : Prop := StepsIn (Machine.fenced P (fw b.roundOf)) P m m'

theorem fenced_fw (P : Program) (ro : Option Nat) (m : Machine) : m.fenced P (fw ro) := fenced_wide P m
theorem stepsR_of {b : Frame} {m m' : Machine} (h : Steps P m m') : StepsR P b m m' := (stepsIn_wide (P := P)).2 h
theorem StepsR.steps' {b : Frame} {m m' : Machine} (h : StepsR P b m m') : Steps P m m' := StepsIn.steps h
theorem stepsR_one {b : Frame} {m m' : Machine} (h : step P m = .next m') : StepsR P b m m' := StepsIn.one (fenced_fw P _ _) h

/-- what a piece of code comes to -/
def Come (P : Program) (G B : Nat) (w0 : Base) (n : Nat) (φ : Phi) (ex : Ex) (fr' : Fr) (σ' : St) (m : Machine) (b : Frame) (k : List Item) (cs : List Frame) : Prop :=
  ∃ a' w' φ', φ.le φ' ∧ Rel G B w0 φ' σ' w' ∧ FR P n φ' fr' a' ∧ ArrR P m b k cs (toExit ex) a' w'

/-- one of the outcomes -/
def Comes1 (P : Program) (G B : Nat) (w0 : Base) (n : Nat) (φ : Phi) (outs : List (Ex × Fr × St)) (m : Machine) (b : Frame) (k : List Item) (cs : List Frame) : Prop :=
  ∃ o ∈ outs, Come P G B w0 n φ o.1 o.2.1 o.2.2 m b k cs

theorem Come.of_steps {n : Nat} {ex : Ex} {fr' : Fr} {m m1 : Machine} {b : Frame} {k : List Item} {cs : List Frame} (h : StepsR P b m m1) (c : Come P G B w0 n φ ex fr' σ' m1 b k cs) : Come P G B w0 n φ ex fr' σ' m b k cs := by
  obtain ⟨a', w', φ', h1, h2, h3, h4⟩ := c
  exact ⟨a', w', φ', h1, h2, h3, ArrivesIn.of_steps h h4⟩

theorem Come.mono {n : Nat} {ψ : Phi} {ex : Ex} {fr' : Fr} {m : Machine} {b : Frame} {k : List Item} {cs : List Frame} (h : φ.le ψ) (c : Come P G B w0 n ψ ex fr' σ' m b k cs) : Come P G B w0 n φ ex fr' σ' m b k cs := by
  obtain ⟨a', w', φ', h1, h2⟩ := c
  exact ⟨a', w', φ', h.trans h1, h2⟩

theorem Come.pass {n : Nat} {ex : Ex} {fr' : Fr} {m : Machine} {b : Frame} {x : Item} {k : List Item} {cs : List Frame} (hx : x.plain = true) (hne : ex ≠ .normal) (c : Come P G B w0 n φ ex fr' σ' m b (x :: k) cs) : Come P G B w0 n φ ex fr' σ' m b k cs := by
  obtain ⟨a', w', φ', h1, h2, h3, h4⟩ := c
  exact ⟨a', w', φ', h1, h2, h3, ArrivesIn.pass hx (fun _ _ => .inl (by cases ex <;> simp_all [toExit])) h4⟩

theorem Comes1.of_steps {n : Nat} {outs : List (Ex × Fr × St)} {m m1 : Machine} {b : Frame} {k : List Item} {cs : List Frame} (h : StepsR P b m m1) (c : Comes1 P G B w0 n φ outs m1 b k cs) : Comes1 P G B w0 n φ outs m b k cs :=
  let ⟨o, ho, hc⟩ := c; ⟨o, ho, hc.of_steps h⟩
theorem Comes1.mono {n : Nat} {ψ : Phi} {outs : List (Ex × Fr × St)} {m : Machine} {b : Frame} {k : List Item} {cs : List Frame} (h : φ.le ψ) (c : Comes1 P G B w0 n ψ outs m b k cs) : Comes1 P G B w0 n φ outs m b k cs :=
  let ⟨o, ho, hc⟩ := c; ⟨o, ho, hc.mono h⟩
theorem Comes1.sub {n : Nat} {outs outs' : List (Ex × Fr × St)} {m : Machine} {b : Frame} {k : List Item} {cs : List Frame} (h : ∀ o ∈ outs, o ∈ outs') (c : Comes1 P G B w0 n φ outs m b k cs) : Comes1 P G B w0 n φ outs' m b k cs :=
  let ⟨o, ho, hc⟩ := c; ⟨o, h o ho, hc⟩

theorem come_of_wp {n : Nat} {c : Code} {outs : List (Fr × St)} {b : Frame} (h : c.wpIn (fw b.roundOf) 0 P (fun e a' w' => e = .normal ∧ ∃ q ∈ outs, ∃ φ', φ.le φ' ∧ Rel G B w0 φ' q.2 w' ∧ FR P n φ' q.1 a') a w) (k : List Item) (cs : List Frame) :
    Comes1 P G B w0 n φ (outs.map fun r => (.normal, r.1, r.2)) (lone (b.atR a (.code c :: k)) cs w) b k cs := by
  obtain ⟨e, a', w', ⟨rfl, q, hq, φ', h1, h2, h3⟩, h4⟩ := h b k cs rfl trivial (room_wide _)
  exact ⟨(.normal, q.1, q.2), List.mem_map.2 ⟨q, hq, rfl⟩, a', w', φ', h1, h2, h3, h4⟩

theorem findLabel_comp (rd : Bool) (n : Nat) : ∀ (c : Code) (l : Nat), findLabel (comp P rd n c) l = (Go.findLabel c l).map (comp P rd n)
  | .seq x y, l => by
    simp only [comp, findLabel, Go.findLabel, findLabel_comp rd n x l, findLabel_comp rd n y l]
    cases Go.findLabel x l <;> simp [comp]
  | .label l', l => by simp only [comp, findLabel, Go.findLabel]; split <;> simp [comp]
  | .region id ops d, l => by
    simp only [comp, Go.findLabel]
    repeat' (split)
    all_goals simp [findLabel]
  | .cond c x y, l => by simp only [comp, Go.findLabel]; split <;> simp [findLabel]
  | .rangeFunc .., l => by
    simp only [comp, Go.findLabel]
    repeat' (split)
    all_goals simp [findLabel]
  | .skip, l | .block _ _, l | .loop _, l | .exit _, l | .scope _, l | .goto _, l | .ret, l | .refuse _, l => by simp [comp, findLabel, Go.findLabel]
end AM
