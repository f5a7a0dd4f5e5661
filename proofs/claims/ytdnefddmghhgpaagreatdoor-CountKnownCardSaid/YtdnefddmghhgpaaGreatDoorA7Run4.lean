import Derived.Test.YtdnefddmghhgpaaGreatDoorA7Run3
namespace AM
open Go Go.RowKit
set_option linter.unusedVariables false
set_option linter.unusedSimpArgs false
variable {P : Program} {φ : Phi} {tm : T V} {a : Act} {w : World} {w0 : Base} {σ σ' : St} {G B : Nat} {call : CallT} {b : Frame}

def resV (tmps : Array Value) : ResultVar → Sem Value
  | .tmp t => pure (tmps.getD t Go.undef)
  | .cell b t => do loadVar t (← asAddr (tmps.getD b Go.undef))

theorem results_list {n : Nat} {fr : Fr} (hF : FR P n φ fr a) (hR : Rel G B w0 φ σ w) : ∀ {l : List ResultVar} {rs : List Res} {vs : List V}, compRes P l = some rs → readResults fr.tmps σ rs = some vs →
    ∃ xs : List Value, (l.mapM (resV a.tmps)).run P w = .ok xs w ∧ LR φ vs xs
  | [], rs, vs, hc, hr => by simp [compRes] at hc; subst hc; simp [readResults] at hr; subst hr; exact ⟨[], rfl, LR.nil⟩
  | .tmp t :: r, rs, vs, hc, hr => by
    simp only [compRes] at hc
    split at hc
    · rename_i l hl
      simp at hc; subst hc
      simp only [readResults] at hr
      split at hr
      · rename_i l2 hl2
        simp at hr; subst hr
        obtain ⟨xs, hx, hlr⟩ := results_list hF hR hl hl2
        exact ⟨a.tmps.getD t Go.undef :: xs, by simp only [List.mapM_cons, resV, Sem.run_bind, Sem.run_pure, Result.andThen_ok, hx], LR.cons (hF.ts t) hlr⟩
      · cases hr
    · cases hc
  | .cell b t :: r, rs, vs, hc, hr => by
    simp only [compRes] at hc
    split at hc
    · rename_i l g m hl hg hm
      simp at hc; subst hc
      simp only [readResults] at hr
      split at hr
      · rename_i id off hid
        split at hr
        · cases hr
        · rename_i l2 hl2
          obtain ⟨xs, hx, hlr⟩ := results_list hF hR hl hl2
          have hp := hF.ts b
          rw [hid] at hp
          obtain ⟨bb, nn, hbb, hpp⟩ := hp
          cases g with
          | true =>
            simp only [if_true] at hr
            split at hr
            · rename_i vs2 hvs
              simp at hr; subst hr
              obtain ⟨ys, hyr, hlen, hcell⟩ := hR.load hvs hbb
              have hld := run_loadCells_list (P := P) w ⟨bb, off, none⟩ ys hcell
              rw [hlen] at hld
              refine ⟨.agg ys.toArray :: xs, ?_, LR.cons (VR.agg (by simpa using hyr)) hlr⟩
              simp only [List.mapM_cons, resV, Sem.run_bind, hpp, asAddr, Sem.run_pure, Result.andThen_ok, loadVar, run_isAgg' hg, if_true, run_sizeOf' hm, hld, hx]
            · cases hr
          | false =>
            simp only [Bool.false_eq_true, if_false] at hr
            split at hr
            · rename_i v hv
              simp at hr; subst hr
              obtain ⟨X, hX, hvX⟩ := hR.cell hv hbb
              refine ⟨X :: xs, ?_, LR.cons hvX hlr⟩
              simp only [List.mapM_cons, resV, Sem.run_bind, hpp, asAddr, Sem.run_pure, Result.andThen_ok, loadVar, run_isAgg' hg, Bool.false_eq_true, if_false, run_load, hX, hx]
            · cases hr
      · cases hr
    · cases hc

theorem results_sound {n : Nat} {fr : Fr} (hF : FR P n φ fr a) (hR : Rel G B w0 φ σ w) {fn : Func} {rs : List Res} {vs : List V} (hc : compRes P fn.results.toList = some rs) (hr : readResults fr.tmps σ rs = some vs) :
    ∃ x, (results fn a.tmps).run P w = .ok x w ∧ VR φ (retV vs) x := by
  obtain ⟨xs, hx, hlr⟩ := results_list hF hR hc hr
  have hl := hlr.length
  have hrun : (results fn a.tmps).run P w = .ok (if h : xs.toArray.size = 1 then xs.toArray[0] else .tuple xs.toArray) w := by
    have hfun : results fn a.tmps = (do
        let vs ← fn.results.mapM (resV a.tmps)
        pure (if h : vs.size = 1 then vs[0] else .tuple vs)) := by
      unfold results
      congr 1
    rw [hfun, Array.mapM_eq_mapM_toList]
    simp only [Sem.run_bind, Sem.run_map]
    rw [hx]
    rfl
  refine ⟨_, hrun, ?_⟩
  cases vs with
  | nil => cases hlr; exact ⟨#[], rfl, LR.nil⟩
  | cons v vs =>
    obtain ⟨x, s, rfl, hv, hs⟩ := hlr
    cases vs with
    | nil => cases hs; exact hv
    | cons u vs =>
      obtain ⟨y, s, rfl, hu, hs⟩ := hs
      rw [dif_neg (by simp)]
      exact ⟨_, rfl, LR.cons hv (LR.cons hu hs)⟩

/-- as 'Leaves', with the marks of loops over functions -/
def LeavesM (P : Program) (fn : Func) (tmps : Array Value) (R : Ending → World → Prop) : List Deferred → FrameMode → World → Prop
  | [], u, w => Leaves P fn tmps R [] u w
  | d :: ds, u, w => u ≠ .run ∧
      ((∃ r w', d.target = .collected r ∧ (Instr.takeDeferred r).run P w = .ok [] w' ∧ LeavesM P fn tmps R ds u w') ∨
       (∃ ats ty cs v w', d.target = .builtin .delete ats ty cs ∧ (invoke d.target d.args).run P w = .ok (.value v) w' ∧ LeavesM P fn tmps R ds u w') ∨
       (∃ fv cap f args, d.target = .fn fv cap ∧ (invoke d.target d.args).run P w = .ok (.enter f args) w ∧
        CallsD P f args u w fun
          | .returned _, u', w' => LeavesM P fn tmps R ds (settle u') w'
          | .panicked chain, u', w' => LeavesM P fn tmps R ds (raised u' chain) w'
          | .outgrown, _, w' => R .outgrown w'))

theorem step_builtin {fr : Frame} {cs : List Frame} {w w' : World} {d : Deferred} {ds : List Deferred} {ats : Array TypeId} {ty : TypeId} {bs : Array Bool} {v : Value}
    (hm : fr.mode ≠ .run) (hd : fr.defers = d :: ds) (ht : d.target = .builtin .delete ats ty bs) (hk : (invoke d.target d.args).run P w = .ok (.value v) w') :
    step P (lone fr cs w) = .next (lone { fr with defers := ds } cs w') := by
  obtain ⟨t, a⟩ := d
  simp only at ht
  subst ht
  simp only at hk
  refine step_lone_go ?_
  cases hmode : fr.mode with
  | run => exact absurd hmode hm
  | returning => simp [stepG, unwind, callDeferred, hmode, hd, Sem.runT_eq, hk, GStep.bare_after]
  | panicking chain => simp [stepG, unwind, callDeferred, hmode, hd, Sem.runT_eq, hk, GStep.bare_after]

theorem leavesM_steps {fn : Func} {tmps : Array Value} {R : Ending → World → Prop} : ∀ (ds : List Deferred) (u : FrameMode) (w : World) (fr : Frame)
    (cs : List Frame), fr.mode = u → fr.defers = ds → fr.tmps = tmps → P.funcs[fr.fn]? = some fn → fr.kind = .normal → LeavesM P fn tmps R ds u w →
    ∃ e w' fr', R e w' ∧ Comes P (lone fr cs w) (lone fr' cs w') e ∧ fr'.fn = fr.fn ∧ fr'.leaving P w' e := by
  intro ds
  induction ds with
  | nil => intro u w fr cs hu hd ht hf hk h; exact leaves_steps [] u w fr cs hu hd ht hf hk h
  | cons d ds ih =>
    intro u w fr cs hu hd ht hf hk h
    obtain ⟨hrun, h⟩ := h
    rcases h with ⟨r, w', htar, htake, hrest⟩ | ⟨ats, ty, bs, v, w', htar, hinv, hrest⟩ | ⟨fv, cap, f, args, htar, hinv, hcall⟩
    · have h1 := step_collected (cs := cs) (hu ▸ hrun) hd htar htake
      obtain ⟨e', w'', fr', hR', hs', hfn', hl'⟩ := ih u w' { fr with defers := [] ++ ds } cs hu rfl ht hf hk hrest
      exact ⟨e', w'', fr', hR', Comes.of_steps (.one h1) hs', hfn', hl'⟩
    · have h1 := step_builtin (cs := cs) (hu ▸ hrun) hd htar hinv
      obtain ⟨e', w'', fr', hR', hs', hfn', hl'⟩ := ih u w' { fr with defers := ds } cs hu rfl ht hf hk hrest
      exact ⟨e', w'', fr', hR', Comes.of_steps (.one h1) hs', hfn', hl'⟩
    · have h1 := step_defer (cs := cs) (hu ▸ hrun) hd htar hinv
      obtain ⟨e, u', w', frX, hR, hsteps, hkX, hgo⟩ := hcall { fr with defers := ds } cs hu
      cases e with
      | returned v =>
        have h2 := step_going_returned (c := { { fr with defers := ds } with mode := u' }) (cs := cs) hkX hgo
        obtain ⟨e', w'', fr', hR', hs', hfn', hl'⟩ := ih (settle u') w' { { { fr with defers := ds } with mode := u' } with mode := settle u' } cs rfl rfl ht hf hk hR
        exact ⟨e', w'', fr', hR', Comes.of_steps (.head h1 (Steps.trans hsteps (.one h2))) hs', hfn', hl'⟩
      | panicked chain =>
        have h2 := step_going_panicked (c := { { fr with defers := ds } with mode := u' }) (cs := cs) hgo
        obtain ⟨e', w'', fr', hR', hs', hfn', hl'⟩ := ih (raised u' chain) w' { { { fr with defers := ds } with mode := u' } with mode := raised u' chain } cs rfl rfl ht hf hk hR
        exact ⟨e', w'', fr', hR', Comes.of_steps (.head h1 (Steps.trans hsteps (.one h2))) hs', hfn', hl'⟩
      | outgrown => exact ⟨.outgrown, w', fr, hR, Outgrown.of_steps (.one h1) hsteps, rfl, trivial⟩

/-- as 'leavesM_steps', for a deferred frame -/
theorem leavesM_stepsD {fn : Func} {tmps : Array Value} {R : Ending → World → Prop} : ∀ (ds : List Deferred) (u : FrameMode) (w : World) (fr : Frame)
    (cs : List Frame), fr.mode = u → fr.defers = ds → fr.tmps = tmps → P.funcs[fr.fn]? = some fn → fr.kind = .deferred → LeavesM P fn tmps R ds u w →
    ∃ e w' fr', R e w' ∧ Comes P (lone fr cs w) (lone fr' cs w') e ∧ fr'.kind = .deferred ∧ fr'.going P w' e := by
  intro ds
  induction ds with
  | nil =>
    intro u w fr cs hu hd ht hf hk h
    cases u with
    | run => exact h.elim
    | returning =>
      obtain ⟨v, hr, hR⟩ := h
      exact ⟨.returned v, w, fr, hR, Steps.refl P _, hk, hu, hd, fn, hf, ht ▸ hr⟩
    | panicking chain => exact ⟨.panicked chain, w, fr, h, Steps.refl P _, hk, hu, hd, fn, hf⟩
  | cons d ds ih =>
    intro u w fr cs hu hd ht hf hk h
    obtain ⟨hrun, h⟩ := h
    rcases h with ⟨r, w', htar, htake, hrest⟩ | ⟨ats, ty, bs, v, w', htar, hinv, hrest⟩ | ⟨fv, cap, f, args, htar, hinv, hcall⟩
    · have h1 := step_collected (cs := cs) (hu ▸ hrun) hd htar htake
      obtain ⟨e', w'', fr', hR', hs', hfn', hl'⟩ := ih u w' { fr with defers := [] ++ ds } cs hu rfl ht hf hk hrest
      exact ⟨e', w'', fr', hR', Comes.of_steps (.one h1) hs', hfn', hl'⟩
    · have h1 := step_builtin (cs := cs) (hu ▸ hrun) hd htar hinv
      obtain ⟨e', w'', fr', hR', hs', hfn', hl'⟩ := ih u w' { fr with defers := ds } cs hu rfl ht hf hk hrest
      exact ⟨e', w'', fr', hR', Comes.of_steps (.one h1) hs', hfn', hl'⟩
    · have h1 := step_defer (cs := cs) (hu ▸ hrun) hd htar hinv
      obtain ⟨e, u', w', frX, hR, hsteps, hkX, hgo⟩ := hcall { fr with defers := ds } cs hu
      cases e with
      | returned v =>
        have h2 := step_going_returned (c := { { fr with defers := ds } with mode := u' }) (cs := cs) hkX hgo
        obtain ⟨e', w'', fr', hR', hs', hfn', hl'⟩ := ih (settle u') w' { { { fr with defers := ds } with mode := u' } with mode := settle u' } cs rfl rfl ht hf hk hR
        exact ⟨e', w'', fr', hR', Comes.of_steps (.head h1 (Steps.trans hsteps (.one h2))) hs', hfn', hl'⟩
      | panicked chain =>
        have h2 := step_going_panicked (c := { { fr with defers := ds } with mode := u' }) (cs := cs) hgo
        obtain ⟨e', w'', fr', hR', hs', hfn', hl'⟩ := ih (raised u' chain) w' { { { fr with defers := ds } with mode := u' } with mode := raised u' chain } cs rfl rfl ht hf hk hR
        exact ⟨e', w'', fr', hR', Comes.of_steps (.head h1 (Steps.trans hsteps (.one h2))) hs', hfn', hl'⟩
      | outgrown => exact ⟨.outgrown, w', fr, hR, Outgrown.of_steps (.one h1) hsteps, hk, trivial⟩

theorem leaves_sound (hcall : DefSound P G call) (hP : w0.P = P) {fn : Func} {tmps : Array Value} {R : Ending → World → Prop} : ∀ (ds : Dfs) (dfs : List Deferred) {σ σ' : St} {φ : Phi} {w : World}, runDefers call ds σ = some σ' → DR P φ ds dfs → Rel G B w0 φ σ w →
    (∀ φ' w', φ.le φ' → Rel G B w0 φ' σ' w' → ∃ v, (results fn tmps).run P w' = .ok v w' ∧ R (.returned v) w') → LeavesM P fn tmps R dfs .returning w
  | [], dfs, σ, σ', φ, w, hr, hD, hR, hk => by
    simp [runDefers] at hr; subst hr
    have : dfs = [] := hD
    subst this
    exact hk φ w (Phi.le.refl _) hR
  | .call g xs :: r, dfs, σ, σ', φ, w, hr, hD, hR, hk => by
    obtain ⟨cap, A, s, rfl, hxs, hs⟩ := hD
    simp only [runDefers] at hr
    split at hr
    · rename_i v σ1 hcl
      refine ⟨by simp, .inr (.inr ⟨.func g, cap, g, A ++ cap, rfl, ?_, ?_⟩)⟩
      · have := hcall.enter g _ σ _ _ hcl (A ++ cap) w
        simpa [invoke] using this
      · refine CallsD.mono (hcall.callsD g _ σ _ _ hcl B w0 φ w _ hP hR hxs) ?_
        rintro e u w' ⟨rfl, φ1, x, rfl, hle, hR1, hv⟩
        exact leaves_sound hcall hP r s hr (hs.mono hle) hR1 (fun φ' w'' hle' => hk φ' w'' (hle.trans hle'))
    · cases hr
  | .mark m :: r, dfs, σ, σ', φ, w, hr, hD, hR, hk => by
    obtain ⟨b, n, s, rfl, hb, hs⟩ := hD
    simp only [runDefers] at hr
    split at hr
    · rename_i ho
      obtain ⟨hBb, hh⟩ := hR.obj _ _ _ _ ho hb
      have hset := hR.setObj (o' := .dead) (O := .deferred none) ho rfl rfl hb hBb rfl (fun _ => trivial)
      exact ⟨by simp, .inl ⟨b, _, rfl, run_takeDeferred hh, leaves_sound hcall hP r s hr hs hset hk⟩⟩
    · cases hr
  | .del kk m q :: r, dfs, σ, σ', φ, w, hr, hD, hR, hk => by
    obtain ⟨ats, ty, cs, X, Y, t, kt, e, s, rfl, hat, hu, hkk, h1, h2, hs⟩ := hD
    simp only [runDefers] at hr
    split at hr
    · rename_i σ1 hdel
      obtain ⟨w', hrun, hR'⟩ := delV_sound (P := P) (ty := ty) hdel hat hu hkk h1 h2 hR
      exact ⟨by simp, .inr (.inl ⟨ats, ty, cs, .tuple #[], w', rfl, by simp [invoke, builtin, hrun], leaves_sound hcall hP r s hr hs hR' hk⟩)⟩
    · cases hr

/-- what one call is asked for -/
def Plain1 (P : Program) (G : Nat) (g : FuncId) (xs : List V) (σ : St) (v : V) (σ' : St) : Prop :=
  ∀ B w0 φ w (args : Array Value), w0.P = P → Rel G B w0 φ σ w → LR φ xs args.toList →
    ((callFunc g args).run P w = .ok (.enter g args) w ∧ Calls P g args w (CPost G B w0 φ σ' v)) ∨
    ∃ x w' φ', (callFunc g args).run P w = .ok (.value x) w' ∧ φ.le φ' ∧ Rel G B w0 φ' σ' w' ∧ VR φ' v x
def Def1 (P : Program) (G : Nat) (g : FuncId) (xs : List V) (σ : St) (v : V) (σ' : St) : Prop :=
  (∀ args w, (callFunc g args).run P w = .ok (.enter g args) w) ∧
    ∀ B w0 φ w (args : Array Value), w0.P = P → Rel G B w0 φ σ w → LR φ xs args.toList → CallsD P g args .returning w fun e u w' => u = .returning ∧ CPost G B w0 φ σ' v e w'

/-- what one call is asked for, of many outcomes -/
def PlainN (P : Program) (G : Nat) (g : FuncId) (xs : List V) (σ : St) (outs : List (V × St)) : Prop :=
  ∀ B w0 φ w (args : Array Value), w0.P = P → Rel G B w0 φ σ w → LR φ xs args.toList →
    ((callFunc g args).run P w = .ok (.enter g args) w ∧ Calls P g args w (CPosts G B w0 φ outs)) ∨
    ∃ x w', (callFunc g args).run P w = .ok (.value x) w' ∧ CPosts G B w0 φ outs (.returned x) w'
def DefN (P : Program) (G : Nat) (g : FuncId) (xs : List V) (σ : St) (outs : List (V × St)) : Prop :=
  (∀ args w, (callFunc g args).run P w = .ok (.enter g args) w) ∧
    ∀ B w0 φ w (args : Array Value), w0.P = P → Rel G B w0 φ σ w → LR φ xs args.toList → CallsD P g args .returning w fun e u w' => u = .returning ∧ CPosts G B w0 φ outs e w'

theorem Plain1.N {g : FuncId} {xs : List V} {v : V} (h : Plain1 P G g xs σ v σ') : PlainN P G g xs σ [(v, σ')] := by
  intro B w0 φ w args hP hR hL
  rcases h B w0 φ w args hP hR hL with ⟨h1, h2⟩ | ⟨x, w', φ', h1, h2, h3, h4⟩
  · exact .inl ⟨h1, h2.mono (fun e w' h3 => ⟨_, List.mem_singleton.2 rfl, h3⟩)⟩
  · exact .inr ⟨x, w', h1, _, List.mem_singleton.2 rfl, φ', x, rfl, h2, h3, h4⟩
theorem Def1.N {g : FuncId} {xs : List V} {v : V} (h : Def1 P G g xs σ v σ') : DefN P G g xs σ [(v, σ')] :=
  ⟨h.1, fun B w0 φ w args hP hR hL => (h.2 B w0 φ w args hP hR hL).mono (fun e u w' h3 => ⟨h3.1, _, List.mem_singleton.2 rfl, h3.2⟩)⟩

/-- a table of functions: each is the program's own, compiled, or one that the library speaks of -/
structure EnvOk (P : Program) (G : Nat) (Γ : T AF) : Prop where
  code : ∀ g fn, Γ.get g = some (.code fn) → ∃ f, P.funcs[g]? = some f ∧ compFn P f = some fn
  ext : ∀ g e xs σ v σ', Γ.get g = some (.ext e) → extCall e xs σ = some (v, σ') → Plain1 P G g xs σ v σ' ∧ (e = .unlock → Def1 P G g xs σ v σ')

def MemoOk (P : Program) (G : Nat) (m : Memo) : Prop := Plain1 P G m.g m.xs m.σ m.v m.σ' ∧ Def1 P G m.g m.xs m.σ m.v m.σ'

theorem memoGet_ok : ∀ {M : List Memo} {g : FuncId} {xs : List V} {σ σ' : St} {v : V}, (∀ m ∈ M, MemoOk P G m) → memoGet M g xs σ = some (v, σ') → Plain1 P G g xs σ v σ' ∧ Def1 P G g xs σ v σ'
  | [], g, xs, σ, σ', v, hM, h => by simp [memoGet] at h
  | m :: r, g, xs, σ, σ', v, hM, h => by
    simp only [memoGet] at h
    split at h
    · rename_i hc
      simp only [Bool.and_eq_true, beq_iff_eq] at hc
      obtain ⟨rfl, _, h1, h2⟩ := hc
      simp at h; obtain ⟨rfl, rfl⟩ := h
      rw [← sameL_eq _ _ h1, ← sameSt_eq _ _ h2]
      exact hM m (by simp)
    · exact memoGet_ok (fun m hm => hM m (by simp [hm])) h

theorem ofList_rel {n : Nat} {xs : List V} {args : Array Value} (h : LR φ xs args.toList) : FR P n φ (enter xs) { tmps := args ++ Array.replicate (n - args.size) Go.undef, defers := [] } := by
  have hl := h.length
  refine ⟨fun t => ?_, by simp; omega, rfl⟩
  simp only [enter, ofList_get, Array.getD_eq_getD_getElem?]
  by_cases c : t < xs.length
  · obtain ⟨x, hx, hv⟩ := h.get t xs[t] (by simp [c])
    rw [Array.getElem?_append_left (by simp at hl; omega)]
    have : args[t]? = some x := by simpa using hx
    rw [this]
    simp [c]; exact hv
  · rw [List.getElem?_eq_none (by omega)]
    have : (args ++ Array.replicate (n - args.size) Go.undef)[t]?.getD Go.undef = Go.undef := by
      rw [Array.getElem?_append_right (by simp at hl; omega), Array.getElem?_replicate]
      split <;> rfl
    rw [this]; exact VR.undef

theorem compFn_spec {f : Func} {fn : AFunc} (h : compFn P f = some fn) : f.name ≠ "runtime.NumGoroutine" ∧ ∃ b, f.body = some b ∧ fn.body = comp P false f.ntmps b ∧ compRes P f.results.toList = some fn.results := by
  unfold compFn at h
  split at h
  · cases h
  · rename_i hn
    split at h
    · cases h
    · rename_i b hb
      split at h
      · rename_i rs hrs; cases h; exact ⟨hn, b, hb, rfl, hrs⟩
      · cases h

theorem callFunc_enter {g : FuncId} {f : Func} {b : Code} (hf : P.funcs[g]? = some f) (hn : f.name ≠ "runtime.NumGoroutine") (hb : f.body = some b) (args : Array Value) (w : World) :
    (callFunc g args).run P w = .ok (.enter g args) w := by
  simp [callFunc, hf, hn, hb]

theorem detC_spec {call : CallN} {c : Ce} {xs : List V} {r : V × St} (h : detC call c xs σ = some r) : call c xs σ = some [r] := by
  unfold detC at h
  split at h
  · rename_i r' hr; cases h; exact hr
  · cases h

theorem defOnly_spec {Γ : T AF} {call : CallN} {g : FuncId} {xs : List V} {r : V × St} (h : defOnly Γ call (.fn g) xs σ = some r) : call (.fn g) xs σ = some [r] ∧ ∀ e, Γ.get g = some (.ext e) → e = .unlock := by
  simp only [defOnly] at h
  split at h
  · rename_i fn hfn; exact ⟨detC_spec h, fun e he => by rw [hfn] at he; cases he⟩
  · rename_i hfn; exact ⟨detC_spec h, fun e he => by rw [hfn] at he; cases he; rfl⟩
  · cases h

theorem putArgs_rel {n : Nat} : ∀ {ps : List Nat} {xs : List V} {args : List Value} {tm tm' : T V} {A : Array Value}, putArgs tm ps xs = some tm' → LR φ xs args → (∀ t, VR φ ((tm.get t).getD .undef) (A.getD t Go.undef)) → n ≤ A.size → (∀ p ∈ ps, p < n) →
    args.length = ps.length ∧ (∀ t, VR φ ((tm'.get t).getD .undef) (((ps.zip args).foldl (fun tmps (t, a) => tmps.setIfInBounds t a) A).getD t Go.undef)) ∧ n ≤ ((ps.zip args).foldl (fun tmps (t, a) => tmps.setIfInBounds t a) A).size
  | [], [], args, tm, tm', A, h, hL, hT, hn, hps => by
    simp [putArgs] at h; subst h
    cases hL
    exact ⟨rfl, hT, hn⟩
  | [], x :: xs, args, tm, tm', A, h, hL, hT, hn, hps => by simp [putArgs] at h
  | p :: ps, [], args, tm, tm', A, h, hL, hT, hn, hps => by simp [putArgs] at h
  | p :: ps, x :: xs, args, tm, tm', A, h, hL, hT, hn, hps => by
    obtain ⟨y, s, rfl, hx, hs⟩ := hL
    simp only [putArgs] at h
    have hp : p < A.size := Nat.lt_of_lt_of_le (hps p List.mem_cons_self) hn
    obtain ⟨h1, h2, h3⟩ := putArgs_rel (A := A.setIfInBounds p y) h hs (fun t => by
      rw [T.get_set]
      by_cases e : t = p
      · subst e
        rw [if_pos rfl]
        have : (A.setIfInBounds t y).getD t Go.undef = y := by simp [Array.getD, hp]
        rw [this]; exact hx
      · rw [if_neg e]
        have : (A.setIfInBounds p y).getD t Go.undef = A.getD t Go.undef := by
          rw [Array.getD_eq_getD_getElem?, Array.getD_eq_getD_getElem?, Array.getElem?_setIfInBounds_ne (Ne.symm e)]
        rw [this]; exact hT t) (by simpa using hn) (fun q hq => hps q (List.mem_cons_of_mem _ hq))
    exact ⟨by simp [h1], h2, h3⟩

theorem fold_zip (ps : Array Tmp) (args : Array Value) (A : Array Value) : (ps.zip args).foldl (fun tmps (t, a) => tmps.setIfInBounds t a) A = (ps.toList.zip args.toList).foldl (fun tmps (t, a) => tmps.setIfInBounds t a) A := by
  rw [← Array.foldl_toList, Array.toList_zip]

/-- a round -/
theorem round_sound {call : CallN} {L : List LMemo} (hcall : CallSound P G call) (hL : LoopsOk P G L) (hdraw : DrawSound P G (detC call)) (hGP : P.globals.size ≤ G) (hP : w0.P = P) {f l : Nat} {xs : List V} {tm tm' : T V} {pe : Option Ex} {ps : List Nat} {asg body : AC}
    (ho : σ.objs.get l = some (.loop .ready pe tm ps asg body)) (hpa : putArgs tm ps xs = some tm') {outs : List (V × St)} (h : allO (exec call L f asg ⟨tm', []⟩ σ) (beginRoundA l (exec call L f body)) = some outs)
    {args : Array Value} {b n : Nat} (ha : φ l = some (b, n)) (hR : Rel G B w0 φ σ w) (hA : LR φ xs args.toList) :
    ∃ fn tmps asg body, (Instr.yield b args).run P w = .ok (.round b fn tmps asg body) w ∧ RoundIn Fence.wide 0 P b fn tmps asg body w (CPosts G B w0 φ outs) := by
  obtain ⟨hBb, r, hr, hst, hpe, htm, hps, m, hm, hpm, hasg, hbody⟩ := hR.obj _ _ _ _ ho ha
  obtain ⟨h1, h2, h3⟩ := putArgs_rel (A := r.tmps) hpa hA htm hm hpm
  rw [← hps] at h1 h2 h3
  rw [← fold_zip] at h2 h3
  refine ⟨r.fn, _, r.assign, r.body, run_yield hr (by simpa using h1), trivial, fun c cs _ => ?_⟩
  generalize ((r.params.zip args).foldl (fun tmps (t, a) => tmps.setIfInBounds t a) r.tmps) = T at h2 h3
  let b0 : Frame := { (default : Frame) with fn := r.fn, kind := .normal, roundOf := some b }
  have hb0 : Frame.round b r.fn T r.assign r.body .normal = b0.atR { tmps := T, defers := [] } [.code r.assign, .beginRound, .code r.body] := by
    simp [Frame.round, Frame.atR, b0]
  have hok : OkB true b0 (c :: cs) := ⟨(fun h => by cases h), (fun h => by cases h)⟩
  obtain ⟨ol, hol, hall⟩ := allO_spec h
  rw [hasg, hP] at hol
  obtain ⟨o, hoo, hc1⟩ := exec_sound hcall hL hdraw hGP hP f r.assign hol hR (show FR P m φ ⟨tm', []⟩ ({ tmps := T, defers := [] } : Act) from ⟨h2, h3, rfl⟩) (b := b0) (k := [.beginRound, .code r.body]) (cs := c :: cs) hok
  obtain ⟨os, hos, hsub⟩ := hall o hoo
  obtain ⟨ex1, fr1, σ1⟩ := o
  obtain ⟨a1, w1, φ1, hle1, hR1, hF1, harr1⟩ := hc1
  unfold beginRoundA at hos
  split at hos
  · rename_i frx σx heq
    cases heq
    split at hos
    · rename_i pe1 tm1 ps1 asg1 body1 ho1
      obtain ⟨hBb1, r1, hr1, hst1, hrest⟩ := hR1.obj _ _ _ _ ho1 (hle1 _ _ ha)
      have hbr := run_beginRound (P := P) hr1 hst1
      have hR2 := hR1.setObj (o' := .loop .busy pe1 tm1 ps1 asg1 body1) (O := .loop { r1 with state := .busy }) ho1 rfl rfl (hle1 _ _ ha) hBb1 rfl (fun hs => ⟨hBb1, _, hs, rfl, hrest⟩)
      obtain ⟨ol2, hol2, hall2⟩ := allO_spec hos
      rw [hbody, hP] at hol2
      obtain ⟨o2, hoo2, a2, w2, φ2, hle2, hR3, hF2, harr2⟩ := exec_sound hcall hL hdraw hGP hP f r.body hol2 hR2 hF1 (b := b0) (k := []) (cs := c :: cs) hok
      obtain ⟨os2, hos2, hsub2⟩ := hall2 o2 hoo2
      obtain ⟨ex2, fr2, σ2⟩ := o2
      have hsteps1 : StepsR P b0 (lone (b0.atR { tmps := T, defers := [] } [.code r.assign, .beginRound, .code r.body]) (c :: cs) w) (lone (b0.atR a1 [.code r.body]) (c :: cs) (w1.putObj b (.loop { r1 with state := .busy }))) :=
        StepsIn.trans harr1 (stepsR_one (stepR_beginRound rfl hbr))
      unfold endRoundA at hos2
      split at hos2
      · rename_i pe3 tm3 ps3 asg3 body3 ho3
        cases hos2
        have ha3 := hle2 _ _ (hle1 _ _ ha)
        obtain ⟨hBb3, r3, hr3, hst3, hpe3, htm3, hrest3⟩ := hR3.obj _ _ _ _ ho3 ha3
        have fin : ∀ (jump : Option Code) (pn : Option Ex) (sn : LSt), jump = jumpC pn → sn.to = (if jump.isNone then LoopState.ready else .done) →
            (V.bool jump.isNone, { σ2 with objs := σ2.objs.set l (.loop sn pn tm3 ps3 asg3 body3) }) ∈ outs →
            ∃ w', (Instr.endRound b jump).run P w2 = .ok (.bool jump.isNone) w' ∧ CPosts G B w0 φ outs (.returned (.bool jump.isNone)) w' := by
          intro jump pn sn hj hs hmem
          refine ⟨_, run_endRound (P := P) jump hr3, _, hmem, φ2, _, rfl, hle1.trans hle2, ?_, rfl⟩
          exact hR3.setObj (O := .loop { r3 with state := if jump.isNone then .ready else .done, pending := jump }) ho3 rfl rfl ha3 hBb3 rfl (fun hss => ⟨hBb3, _, hss, hs.symm, hj, htm3, hrest3⟩)
        have harr := ArrivesIn.of_steps hsteps1 harr2
        rw [hb0]
        cases ex2 with
        | normal =>
          obtain ⟨w', hend, hp⟩ := fin none none .ready rfl rfl (hsub _ (hsub2 _ (List.mem_singleton.2 (by simp))))
          exact ⟨_, w', hp, StepsIn.trans harr (stepsR_one (b := b0) (stepR_round_end rfl rfl hend))⟩
        | exit id =>
          obtain ⟨w', hend, hp⟩ := fin (some (.exit id)) (some (.exit id)) .done rfl rfl (hsub _ (hsub2 _ (List.mem_singleton.2 (by simp))))
          obtain ⟨k1, hk, hs⟩ := harr.2 rfl rfl
          exact ⟨_, w', hp, StepsIn.trans hs (stepsR_one (b := b0) (stepR_round_exit rfl rfl hk hend))⟩
        | goto t =>
          obtain ⟨w', hend, hp⟩ := fin (some (.goto t)) (some (.goto t)) .done rfl rfl (hsub _ (hsub2 _ (List.mem_singleton.2 (by simp))))
          obtain ⟨k1, hk, hs⟩ := harr.2 rfl rfl
          exact ⟨_, w', hp, StepsIn.trans hs (stepsR_one (b := b0) (stepR_round_goto rfl rfl hk hend))⟩
        | ret =>
          obtain ⟨w', hend, hp⟩ := fin (some .ret) (some .ret) .done rfl rfl (hsub _ (hsub2 _ (List.mem_singleton.2 (by simp))))
          obtain ⟨k1, hs⟩ := harr.2 rfl
          exact ⟨_, w', hp, StepsIn.trans hs (stepsR_one (b := b0) (stepR_round_ret rfl rfl hend))⟩
      · cases hos2
    · cases hos
  · cases hos

theorem callF_sound (Γ : T AF) (M : List Memo) (L : List LMemo) (hLo : LoopsOk P G L) (hΓ : EnvOk P G Γ) (hM : ∀ m ∈ M, MemoOk P G m) (hGP : P.globals.size ≤ G) (hdraw : ∀ call, CallSound1 P G call → DrawSound P G call) : ∀ f,
    CallSound P G (callF Γ M L f) ∧ DefSound P G (defOnly Γ (callF Γ M L f)) ∧ (∀ g xs σ outs, callF Γ M L f (.fn g) xs σ = some outs → PlainN P G g xs σ outs ∧ ((∀ e, Γ.get g = some (.ext e) → e = .unlock) → DefN P G g xs σ outs))
  | 0 => by
    refine ⟨⟨fun _ _ _ _ h => by simp [callF] at h, fun _ _ _ _ h => by simp [callF] at h⟩, ⟨fun _ _ _ _ _ h => ?_, fun _ _ _ _ _ h => ?_⟩, fun _ _ _ _ h => by simp [callF] at h⟩
    · have := (defOnly_spec h).1; simp [callF] at this
    · have := (defOnly_spec h).1; simp [callF] at this
  | f + 1 => by
    obtain ⟨ih, ihD, _⟩ := callF_sound Γ M L hLo hΓ hM hGP hdraw f
    have body : ∀ g xs σ outs, callF Γ M L (f + 1) (.fn g) xs σ = some outs → PlainN P G g xs σ outs ∧ ((∀ e, Γ.get g = some (.ext e) → e = .unlock) → DefN P G g xs σ outs) := by
      intro g xs σ outs h
      simp only [callF] at h
      split at h
      · rename_i r hr
        cases h
        obtain ⟨h1, h2⟩ := memoGet_ok hM hr
        exact ⟨h1.N, fun _ => h2.N⟩
      split at h
      · rename_i e he
        split at h
        · rename_i r hr
          cases h
          obtain ⟨h1, h2⟩ := hΓ.ext g e xs σ _ _ he hr
          exact ⟨h1.N, fun hu => (h2 (hu e he)).N⟩
        · cases h
      · rename_i fn hfn
        obtain ⟨fn', hf, hcf⟩ := hΓ.code g fn hfn
        obtain ⟨hn, c, hb, hbody, hres⟩ := compFn_spec hcf
        obtain ⟨ol, hol, hall⟩ := allO_spec h
        rw [hbody] at hol
        have run : ∀ B w0 φ w (args : Array Value), w0.P = P → Rel G B w0 φ σ w → LR φ xs args.toList → ∀ (b : Frame) (cs : List Frame), OkB false b cs →
            ∃ a' w' todo, Steps P (lone (b.atR { tmps := args ++ Array.replicate (fn'.ntmps - args.size) Go.undef, defers := [] } [.code c]) cs w) (lone { b.atR a' todo with mode := .returning } cs w') ∧
              LeavesM P fn' a'.tmps (fun e w' => CPosts G B w0 φ outs e w') a'.defers .returning w' := by
          intro B w0 φ w args hP hR hL b cs hok
          obtain ⟨o, ho, a', w', φ', hle, hR', hF', harr⟩ := exec_sound ih hLo (hdraw _ ih.det) hGP hP f c hol hR (ofList_rel (n := fn'.ntmps) hL) (b := b) (k := []) (cs := cs) hok
          obtain ⟨os, hos, hsub⟩ := hall o ho
          obtain ⟨ex, fr1, σ1⟩ := o
          unfold leaveF at hos
          split at hos
          · rename_i hex
            split at hos
            · rename_i σ2 hrd
              split at hos
              · rename_i vs hvs
                cases hos
                have hleave : LeavesM P fn' a'.tmps (fun e w' => CPosts G B w0 φ outs e w') a'.defers .returning w' := by
                  refine leaves_sound ihD hP fr1.defers a'.defers hrd hF'.ds hR' ?_
                  intro φ2 w2 hle2 hR2
                  obtain ⟨x, hx, hvx⟩ := results_sound (hF'.mono hle2) hR2 hres hvs
                  exact ⟨x, hx, _, hsub _ (List.mem_singleton.2 rfl), φ2, x, rfl, hle.trans hle2, hR2, hvx⟩
                have hbr := hok.plain rfl
                rcases hex with hex | hex
                · simp only at hex
                  subst hex
                  exact ⟨a', w', [], Steps.trans (StepsR.steps' (b := b) harr) (.one (stepR_end hbr)), hleave⟩
                · simp only at hex
                  subst hex
                  obtain ⟨todo, hs⟩ := harr.1 hbr
                  exact ⟨a', w', todo, StepsR.steps' (b := b) hs, hleave⟩
              · cases hos
            · cases hos
          · cases hos
        refine ⟨?_, fun _ => ⟨fun args w => callFunc_enter hf hn hb args w, ?_⟩⟩
        · intro B w0 φ w args hP hR hL
          refine .inl ⟨callFunc_enter hf hn hb args w, ?_⟩
          intro cs
          let b : Frame := { (default : Frame) with fn := g, kind := .normal, roundOf := none }
          have henter : Frame.enter P g args .normal = b.atR { tmps := args ++ Array.replicate (fn'.ntmps - args.size) Go.undef, defers := [] } [.code c] := by
            simp [Frame.enter, Frame.atR, hf, hb, b]
          obtain ⟨a', w', todo, hs, hleave⟩ := run B w0 φ w args hP hR hL b cs ⟨by intro _ fr hk; have : fr.kind = .normal := hk; simp [tryRecover, this], fun _ => rfl⟩
          rw [← henter] at hs
          obtain ⟨e', w'', fr', hR', hs', hfn', hl'⟩ := leavesM_steps a'.defers .returning w' { b.atR a' todo with mode := .returning } cs rfl rfl rfl hf rfl hleave
          exact ⟨e', w'', fr', hR', Comes.of_steps hs hs', hfn', hl'⟩
        · intro B w0 φ w args hP hR hL c0 cs hu
          let b : Frame := { (default : Frame) with fn := g, kind := .deferred, roundOf := none }
          have henter : Frame.enter P g args .deferred = b.atR { tmps := args ++ Array.replicate (fn'.ntmps - args.size) Go.undef, defers := [] } [.code c] := by
            simp [Frame.enter, Frame.atR, hf, hb, b]
          obtain ⟨a', w', todo, hs, hleave⟩ := run B w0 φ w args hP hR hL b (c0 :: cs) ⟨by intro _ fr hk; have : fr.kind = .deferred := hk; simp [tryRecover, this, hu], fun _ => rfl⟩
          rw [← henter] at hs
          obtain ⟨e', w'', fr', hR', hs', hk', hg'⟩ := leavesM_stepsD a'.defers .returning w' { b.atR a' todo with mode := .returning } (c0 :: cs) rfl rfl rfl hf rfl hleave
          have hc0 : ({ c0 with mode := .returning } : Frame) = c0 := by rw [← hu]
          exact ⟨e', .returning, w'', fr', ⟨rfl, hR'⟩, by rw [hc0]; exact Comes.of_steps hs hs', hk', hg'⟩
      · cases h
    refine ⟨⟨fun g xs σ outs h => (body g xs σ outs h).1, ?_⟩, ⟨?_, ?_⟩, body⟩
    · intro l xs σ outs h B w0 φ w args b n hP ha hR hA
      simp only [callF] at h
      split at h
      · rename_i pe tm ps asg bd ho
        split at h
        · rename_i tm' hpa
          exact round_sound ih hLo (hdraw _ ih.det) hGP hP ho hpa h ha hR hA
        · cases h
      · cases h
    · intro g xs σ v σ' h
      obtain ⟨h1, h2⟩ := defOnly_spec h
      exact ((body g xs σ _ h1).2 h2).1
    · intro g xs σ v σ' h B w0 φ w args hP hR hL
      obtain ⟨h1, h2⟩ := defOnly_spec h
      refine (((body g xs σ _ h1).2 h2).2 B w0 φ w args hP hR hL).mono ?_
      rintro e u w' ⟨h3, o, ho, h4⟩
      simp at ho; subst ho
      exact ⟨h3, h4⟩

/-- objects that are told no more -/
theorem killAll_get2 (l : List Nat) : ∀ (o : T Obj) (a : Nat), (killAll l o).get a = o.get a ∨ ((killAll l o).get a = some .dead ∧ ∃ q, o.get a = some q) := by
  induction l with
  | nil => intro o a; exact .inl rfl
  | cons m r ih =>
    intro o a
    simp only [killAll]
    split
    · rename_i q hq
      rcases ih (o.set m .dead) a with h | ⟨h, q', hq'⟩
      · rw [T.get_set] at h
        by_cases e : a = m
        · subst e; rw [if_pos rfl] at h; exact .inr ⟨h, q, hq⟩
        · rw [if_neg e] at h; exact .inl h
      · refine .inr ⟨h, ?_⟩
        rw [T.get_set] at hq'
        by_cases e : a = m
        · subst e; exact ⟨q, hq⟩
        · rw [if_neg e] at hq'; exact ⟨q', hq'⟩
    · exact ih o a

theorem Rel.kill (h : Rel G B w0 φ σ w) (l : List Nat) : Rel G B w0 φ { σ with objs := killAll l σ.objs } w := by
  have key : ∀ a o, (killAll l σ.objs).get a = some o → σ.objs.get a = some o ∨ (o = .dead ∧ ∃ q, σ.objs.get a = some q) := by
    intro a o ho
    rcases killAll_get2 l σ.objs a with h | ⟨h, q, hq⟩
    · rw [h] at ho; exact .inl ho
    · rw [h] at ho; cases ho; exact .inr ⟨rfl, q, hq⟩
  refine ⟨h.below, h.B_le, h.dom, h.glob, ?_, ?_, ?_, ?_, h.gfresh, h.pend⟩
  · intro a o b n ho ha
    rcases key a o ho with h1 | ⟨rfl, _⟩
    · exact h.obj a o b n h1 ha
    · trivial
  · intro a ha
    have h0 := h.fresh a ha
    rcases killAll_get2 l σ.objs a with h1 | ⟨_, q, hq⟩
    · simp only; rw [h1]; exact h0
    · rw [h0] at hq; cases hq
  · intro a a' o o' b n n' hne ho ho' hm hl ha ha'
    rcases key a o ho with h1 | ⟨rfl, _⟩
    · rcases key a' o' ho' with h2 | ⟨rfl, _⟩
      · exact h.sep a a' o o' b n n' hne h1 h2 hm hl ha ha'
      · cases hl
    · cases hm
  · intro a o ho hg
    rcases key a o ho with h1 | ⟨rfl, _⟩
    · exact h.grp a o h1 hg
    · exact (hg rfl).elim

/-- what one run makes known: all outcomes are the same, but for objects that are told no more -/
theorem memo_ok (Γ : T AF) (M : List Memo) (L : List LMemo) (hLo : LoopsOk P G L) (hΓ : EnvOk P G Γ) (hM : ∀ m ∈ M, MemoOk P G m) (hGP : P.globals.size ≤ G) (hdraw : ∀ call, CallSound1 P G call → DrawSound P G call) {f : Nat} {m : Memo} {fn : AFunc} (hg : Γ.get m.g = some (.code fn)) {outs : List (V × St)} {dead : List Nat}
    (h : callF Γ M L f (.fn m.g) m.xs m.σ = some outs) (hall : ∀ o ∈ outs, o.1 = m.v ∧ ({ o.2 with objs := killAll dead o.2.objs } : St) = m.σ') : MemoOk P G m := by
  obtain ⟨h1, h2⟩ := (callF_sound Γ M L hLo hΓ hM hGP hdraw f).2.2 _ _ _ _ h
  have h2 := h2 (fun e he => by rw [hg] at he; cases he)
  have conv : ∀ {B : Nat} {w0 : Base} {φ : Phi} {e : Ending} {w' : World}, CPosts G B w0 φ outs e w' → CPost G B w0 φ m.σ' m.v e w' := by
    rintro B w0 φ e w' ⟨o, ho, φ', x, rfl, h1, h2, h3⟩
    obtain ⟨e1, e2⟩ := hall o ho
    exact ⟨φ', x, rfl, h1, e2 ▸ h2.kill dead, e1 ▸ h3⟩
  refine ⟨?_, h2.1, ?_⟩
  · intro B w0 φ w args hP hR hL
    rcases h1 B w0 φ w args hP hR hL with ⟨p1, p2⟩ | ⟨x, w', p1, p2⟩
    · exact .inl ⟨p1, p2.mono (fun e w' => conv)⟩
    · obtain ⟨φ', y, hy, q1, q2, q3⟩ := conv p2
      cases hy
      exact .inr ⟨x, w', φ', p1, q1, q2, q3⟩
  · intro B w0 φ w args hP hR hL
    exact (h2.2 B w0 φ w args hP hR hL).mono (fun e u w' ⟨h3, h4⟩ => ⟨h3, conv h4⟩)
end AM
