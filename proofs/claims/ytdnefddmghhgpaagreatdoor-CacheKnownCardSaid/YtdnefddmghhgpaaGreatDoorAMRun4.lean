import Derived.Test.YtdnefddmghhgpaaGreatDoorAMRun3
namespace AM
open Go Go.RowKit
set_option linter.unusedVariables false
set_option linter.unusedSimpArgs false
variable {P : Program} {φ : Phi} {tm : T V} {a : Act} {w : World} {w0 : Base} {σ σ' : St} {G B : Nat} {call : CallT}

def resV (tmps : Array Value) : ResultVar → Sem Value
  | .tmp t => pure (tmps.getD t Go.undef)
  | .cell b t => do loadVar t (← asAddr (tmps.getD b Go.undef))

theorem results_list {n : Nat} {fr : Fr} (hF : FR n φ fr a) (hR : Rel G B w0 φ σ w) : ∀ {l : List ResultVar} {rs : List Res} {vs : List V}, compRes P l = some rs → readResults fr.tmps σ rs = some vs →
    ∃ xs : List Value, (l.mapM (resV a.tmps)).run P w = .ok xs w ∧ LR φ vs xs
  | [], rs, vs, hc, hr => by simp [compRes] at hc; subst hc; simp [readResults] at hr; subst hr; exact ⟨[], rfl, LR.nil⟩
  | .tmp t :: r, rs, vs, hc, hr => by
    simp only [compRes] at hc
    split at hc
    · rename_i l hl
      simp at hc; subst hc
      simp only [readResults] at hr
      split at hr
      · rename_i l2 hl2
        simp at hr; subst hr
        obtain ⟨xs, hx, hlr⟩ := results_list hF hR hl hl2
        exact ⟨a.tmps.getD t Go.undef :: xs, by simp only [List.mapM_cons, resV, Sem.run_bind, Sem.run_pure, Result.andThen_ok, hx], LR.cons (hF.ts t) hlr⟩
      · cases hr
    · cases hc
  | .cell b t :: r, rs, vs, hc, hr => by
    simp only [compRes] at hc
    split at hc
    · rename_i l g m hl hg hm
      simp at hc; subst hc
      simp only [readResults] at hr
      split at hr
      · rename_i id off hid
        split at hr
        · cases hr
        · rename_i l2 hl2
          obtain ⟨xs, hx, hlr⟩ := results_list hF hR hl hl2
          have hp := hF.ts b
          rw [hid] at hp
          obtain ⟨bb, nn, hbb, hpp⟩ := hp
          cases g with
          | true =>
            simp only [if_true] at hr
            split at hr
            · rename_i vs2 hvs
              simp at hr; subst hr
              obtain ⟨ys, hyr, hlen, hcell⟩ := hR.load hvs hbb
              have hld := run_loadCells_list (P := P) w ⟨bb, off, none⟩ ys hcell
              rw [hlen] at hld
              refine ⟨.agg ys.toArray :: xs, ?_, LR.cons (VR.agg (by simpa using hyr)) hlr⟩
              simp only [List.mapM_cons, resV, Sem.run_bind, hpp, asAddr, Sem.run_pure, Result.andThen_ok, loadVar, run_isAgg' hg, if_true, run_sizeOf' hm, hld, hx]
            · cases hr
          | false =>
            simp only [Bool.false_eq_true, if_false] at hr
            split at hr
            · rename_i v hv
              simp at hr; subst hr
              obtain ⟨X, hX, hvX⟩ := hR.cell hv hbb
              refine ⟨X :: xs, ?_, LR.cons hvX hlr⟩
              simp only [List.mapM_cons, resV, Sem.run_bind, hpp, asAddr, Sem.run_pure, Result.andThen_ok, loadVar, run_isAgg' hg, Bool.false_eq_true, if_false, run_load, hX, hx]
            · cases hr
      · cases hr
    · cases hc

theorem results_sound {n : Nat} {fr : Fr} (hF : FR n φ fr a) (hR : Rel G B w0 φ σ w) {fn : Func} {rs : List Res} {vs : List V} (hc : compRes P fn.results.toList = some rs) (hr : readResults fr.tmps σ rs = some vs) :
    ∃ x, (results fn a.tmps).run P w = .ok x w ∧ VR φ (retV vs) x := by
  obtain ⟨xs, hx, hlr⟩ := results_list hF hR hc hr
  have hl := hlr.length
  have hrun : (results fn a.tmps).run P w = .ok (if h : xs.toArray.size = 1 then xs.toArray[0] else .tuple xs.toArray) w := by
    have hfun : results fn a.tmps = (do
        let vs ← fn.results.mapM (resV a.tmps)
        pure (if h : vs.size = 1 then vs[0] else .tuple vs)) := by
      unfold results
      congr 1
    rw [hfun, Array.mapM_eq_mapM_toList]
    simp only [Sem.run_bind, Sem.run_map]
    rw [hx]
    rfl
  refine ⟨_, hrun, ?_⟩
  cases vs with
  | nil => cases hlr; exact ⟨#[], rfl, LR.nil⟩
  | cons v vs =>
    obtain ⟨x, s, rfl, hv, hs⟩ := hlr
    cases vs with
    | nil => cases hs; exact hv
    | cons u vs =>
      obtain ⟨y, s, rfl, hu, hs⟩ := hs
      rw [dif_neg (by simp)]
      exact ⟨_, rfl, LR.cons hv (LR.cons hu hs)⟩

theorem leaves_sound (hcall : DefSound P G call) {fn : Func} {tmps : Array Value} {R : Ending → World → Prop} : ∀ (ds : Dfs) (dfs : List Deferred) {σ σ' : St} {φ : Phi} {w : World}, runDefers call ds σ = some σ' → DR φ ds dfs → Rel G B w0 φ σ w →
    (∀ φ' w', φ.le φ' → Rel G B w0 φ' σ' w' → ∃ v, (results fn tmps).run P w' = .ok v w' ∧ R (.returned v) w') → Leaves P fn tmps R dfs .returning w
  | [], dfs, σ, σ', φ, w, hr, hD, hR, hk => by
    simp [runDefers] at hr; subst hr
    have : dfs = [] := hD
    subst this
    exact hk φ w (Phi.le.refl _) hR
  | (g, xs) :: r, dfs, σ, σ', φ, w, hr, hD, hR, hk => by
    obtain ⟨cap, A, s, rfl, hxs, hs⟩ := hD
    simp only [runDefers] at hr
    split at hr
    · rename_i v σ1 hcl
      refine ⟨by simp, .func g, cap, g, A ++ cap, rfl, ?_, ?_⟩
      · have := hcall.enter g _ σ _ _ hcl (A ++ cap) w
        simpa [invoke] using this
      · refine CallsD.mono (hcall.callsD g _ σ _ _ hcl B w0 φ w _ hR hxs) ?_
        rintro e u w' ⟨rfl, φ1, x, rfl, hle, hR1, hv⟩
        exact leaves_sound hcall r s hr (hs.mono hle) hR1 (fun φ' w'' hle' => hk φ' w'' (hle.trans hle'))
    · cases hr

/-- as 'leaves_steps', for a deferred frame -/
theorem leaves_stepsD {fn : Func} {tmps : Array Value} {R : Ending → World → Prop} : ∀ (ds : List Deferred) (u : FrameMode) (w : World) (fr : Frame)
    (cs : List Frame), fr.mode = u → fr.defers = ds → fr.tmps = tmps → P.funcs[fr.fn]? = some fn → fr.kind = .deferred → Leaves P fn tmps R ds u w →
    ∃ e w' fr', R e w' ∧ Comes P (lone fr cs w) (lone fr' cs w') e ∧ fr'.kind = .deferred ∧ fr'.going P w' e := by
  intro ds
  induction ds with
  | nil =>
    intro u w fr cs hu hd ht hf hk h
    cases u with
    | run => exact h.elim
    | returning =>
      obtain ⟨v, hr, hR⟩ := h
      exact ⟨.returned v, w, fr, hR, Steps.refl P _, hk, hu, hd, fn, hf, ht ▸ hr⟩
    | panicking chain => exact ⟨.panicked chain, w, fr, h, Steps.refl P _, hk, hu, hd, fn, hf⟩
  | cons d ds ih =>
    intro u w fr cs hu hd ht hf hk h
    obtain ⟨hrun, fv, cap, f, args, htar, hinv, hcall⟩ := h
    have h1 := step_defer (cs := cs) (hu ▸ hrun) hd htar hinv
    obtain ⟨e, u', w', frX, hR, hsteps, hkX, hgo⟩ := hcall { fr with defers := ds } cs hu
    cases e with
    | returned v =>
      have h2 := step_going_returned (c := { { fr with defers := ds } with mode := u' }) (cs := cs) hkX hgo
      obtain ⟨e', w'', fr', hR', hs', hfn', hl'⟩ := ih (settle u') w' { { { fr with defers := ds } with mode := u' } with mode := settle u' } cs rfl rfl ht hf hk hR
      exact ⟨e', w'', fr', hR', Comes.of_steps (.head h1 (Steps.trans hsteps (.one h2))) hs', hfn', hl'⟩
    | panicked chain =>
      have h2 := step_going_panicked (c := { { fr with defers := ds } with mode := u' }) (cs := cs) hgo
      obtain ⟨e', w'', fr', hR', hs', hfn', hl'⟩ := ih (raised u' chain) w' { { { fr with defers := ds } with mode := u' } with mode := raised u' chain } cs rfl rfl ht hf hk hR
      exact ⟨e', w'', fr', hR', Comes.of_steps (.head h1 (Steps.trans hsteps (.one h2))) hs', hfn', hl'⟩
    | outgrown => exact ⟨.outgrown, w', fr, hR, Outgrown.of_steps (.one h1) hsteps, hk, trivial⟩

/-- what one call is asked for -/
def Plain1 (P : Program) (G : Nat) (g : FuncId) (xs : List V) (σ : St) (v : V) (σ' : St) : Prop :=
  ∀ B w0 φ w (args : Array Value), Rel G B w0 φ σ w → LR φ xs args.toList →
    ((callFunc g args).run P w = .ok (.enter g args) w ∧ Calls P g args w (CPost G B w0 φ σ' v)) ∨
    ∃ x w' φ', (callFunc g args).run P w = .ok (.value x) w' ∧ φ.le φ' ∧ Rel G B w0 φ' σ' w' ∧ VR φ' v x
def Def1 (P : Program) (G : Nat) (g : FuncId) (xs : List V) (σ : St) (v : V) (σ' : St) : Prop :=
  (∀ args w, (callFunc g args).run P w = .ok (.enter g args) w) ∧
    ∀ B w0 φ w (args : Array Value), Rel G B w0 φ σ w → LR φ xs args.toList → CallsD P g args .returning w fun e u w' => u = .returning ∧ CPost G B w0 φ σ' v e w'

/-- a table of functions: each is the program's own, compiled, or one that the library speaks of -/
structure EnvOk (P : Program) (G : Nat) (Γ : T AF) : Prop where
  code : ∀ g fn, Γ.get g = some (.code fn) → ∃ f, P.funcs[g]? = some f ∧ compFn P f = some fn
  ext : ∀ g e xs σ v σ', Γ.get g = some (.ext e) → extCall e xs σ = some (v, σ') → Plain1 P G g xs σ v σ' ∧ (e = .unlock → Def1 P G g xs σ v σ')

def MemoOk (P : Program) (G : Nat) (m : Memo) : Prop := Plain1 P G m.g m.xs m.σ m.v m.σ' ∧ Def1 P G m.g m.xs m.σ m.v m.σ'

theorem memoGet_ok : ∀ {M : List Memo} {g : FuncId} {xs : List V} {σ σ' : St} {v : V}, (∀ m ∈ M, MemoOk P G m) → memoGet M g xs σ = some (v, σ') → Plain1 P G g xs σ v σ' ∧ Def1 P G g xs σ v σ'
  | [], g, xs, σ, σ', v, hM, h => by simp [memoGet] at h
  | m :: r, g, xs, σ, σ', v, hM, h => by
    simp only [memoGet] at h
    split at h
    · rename_i hc
      simp only [Bool.and_eq_true, beq_iff_eq] at hc
      obtain ⟨rfl, _, h1, h2⟩ := hc
      simp at h; obtain ⟨rfl, rfl⟩ := h
      rw [← sameL_eq _ _ h1, ← sameSt_eq _ _ h2]
      exact hM m (by simp)
    · exact memoGet_ok (fun m hm => hM m (by simp [hm])) h

theorem ofList_rel {n : Nat} {xs : List V} {args : Array Value} (h : LR φ xs args.toList) : FR n φ (enter xs) { tmps := args ++ Array.replicate (n - args.size) Go.undef, defers := [] } := by
  have hl := h.length
  refine ⟨fun t => ?_, by simp; omega, rfl⟩
  simp only [enter, ofList_get, Array.getD_eq_getD_getElem?]
  by_cases c : t < xs.length
  · obtain ⟨x, hx, hv⟩ := h.get t xs[t] (by simp [c])
    rw [Array.getElem?_append_left (by simp at hl; omega)]
    have : args[t]? = some x := by simpa using hx
    rw [this]
    simp [c]; exact hv
  · rw [List.getElem?_eq_none (by omega)]
    have : (args ++ Array.replicate (n - args.size) Go.undef)[t]?.getD Go.undef = Go.undef := by
      rw [Array.getElem?_append_right (by simp at hl; omega), Array.getElem?_replicate]
      split <;> rfl
    rw [this]; exact VR.undef

theorem compFn_spec {f : Func} {fn : AFunc} (h : compFn P f = some fn) : f.name ≠ "runtime.NumGoroutine" ∧ ∃ b, f.body = some b ∧ fn.body = comp P f.ntmps b ∧ compRes P f.results.toList = some fn.results := by
  unfold compFn at h
  split at h
  · cases h
  · rename_i hn
    split at h
    · cases h
    · rename_i b hb
      split at h
      · rename_i rs hrs; cases h; exact ⟨hn, b, hb, rfl, hrs⟩
      · cases h

theorem callFunc_enter {g : FuncId} {f : Func} {b : Code} (hf : P.funcs[g]? = some f) (hn : f.name ≠ "runtime.NumGoroutine") (hb : f.body = some b) (args : Array Value) (w : World) :
    (callFunc g args).run P w = .ok (.enter g args) w := by
  simp [callFunc, hf, hn, hb]

theorem defOnly_zero {Γ : T AF} {M : List Memo} {L : List LMemo} {g : FuncId} {xs : List V} {σ : St} {r : V × St} (h : defOnly Γ (callF Γ M L 0) g xs σ = some r) : False := by
  simp only [defOnly, callF] at h
  split at h <;> cases h

theorem callF_sound (Γ : T AF) (M : List Memo) (L : List LMemo) (hLo : LoopsOk P G L) (hΓ : EnvOk P G Γ) (hM : ∀ m ∈ M, MemoOk P G m) (hGP : G = P.globals.size) (hdraw : ∀ call, CallSound P G call → DrawSound P G call) : ∀ f, CallSound P G (callF Γ M L f) ∧ DefSound P G (defOnly Γ (callF Γ M L f))
  | 0 => ⟨⟨fun _ _ _ _ _ h => by simp [callF] at h⟩, ⟨fun _ _ _ _ _ h => (defOnly_zero h).elim, fun _ _ _ _ _ h => (defOnly_zero h).elim⟩⟩
  | f + 1 => by
    obtain ⟨ih, ihD⟩ := callF_sound Γ M L hLo hΓ hM hGP hdraw f
    -- the body of a function, up to its end
    have body : ∀ {g xs σ v σ'}, callF Γ M L (f + 1) g xs σ = some (v, σ') → (Plain1 P G g xs σ v σ' ∧ Def1 P G g xs σ v σ') ∨ (∃ e, Γ.get g = some (.ext e) ∧ extCall e xs σ = some (v, σ')) ∨
        ∃ (fn : Func) (c : Code), P.funcs[g]? = some fn ∧ fn.name ≠ "runtime.NumGoroutine" ∧ fn.body = some c ∧
          ∀ B w0 φ w (args : Array Value), Rel G B w0 φ σ w → LR φ xs args.toList → ∀ (b : Frame) (cs : List Frame), OkB b cs →
            ∃ a' w' todo, Steps P (lone (b.at { tmps := args ++ Array.replicate (fn.ntmps - args.size) Go.undef, defers := [] } [.code c]) cs w) (lone { b.at a' todo with mode := .returning } cs w') ∧
              Leaves P fn a'.tmps (fun e w' => CPost G B w0 φ σ' v e w') a'.defers .returning w' := by
      intro g xs σ v σ' h
      simp only [callF] at h
      split at h
      · rename_i r hr
        simp at h; subst h
        exact .inl (memoGet_ok hM hr)
      right
      split at h
      · rename_i e he; exact .inl ⟨e, he, h⟩
      · rename_i fn hfn
        right
        obtain ⟨fn', hf, hcf⟩ := hΓ.code g fn hfn
        obtain ⟨hn, c, hb, hbody, hres⟩ := compFn_spec hcf
        refine ⟨fn', c, hf, hn, hb, ?_⟩
        intro B w0 φ w args hR hL b cs hok
        rw [hbody] at h
        split at h
        · rename_i ex fr1 σ1 hex
          split at h
          · rename_i hexn
            split at h
            · rename_i σ2 hrd
              split at h
              · rename_i vs hvs
                simp at h; obtain ⟨rfl, rfl⟩ := h
                obtain ⟨a', w', φ', hle, hR', hF', harr⟩ := exec_sound ih hLo (hdraw _ ih) hGP f c hex hR (ofList_rel (n := fn'.ntmps) hL) (b := b) (k := []) (cs := cs) hok
                have hleave : Leaves P fn' a'.tmps (fun e w' => CPost G B w0 φ σ2 (retV vs) e w') a'.defers .returning w' := by
                  refine leaves_sound ihD fr1.defers a'.defers hrd hF'.ds hR' ?_
                  intro φ2 w2 hle2 hR2
                  obtain ⟨x, hx, hvx⟩ := results_sound (hF'.mono hle2) hR2 hres hvs
                  exact ⟨x, hx, φ2, x, rfl, hle.trans hle2, hR2, hvx⟩
                rcases hexn with rfl | rfl
                · exact ⟨a', w', [], Steps.trans harr (.one step_end), hleave⟩
                · obtain ⟨todo, hs⟩ := harr
                  exact ⟨a', w', todo, hs, hleave⟩
              · cases h
            · cases h
          · cases h
        · cases h
      · cases h
    have def1 : ∀ {g xs σ v σ'}, callF Γ M L (f + 1) g xs σ = some (v, σ') → (∀ e, Γ.get g = some (.ext e) → e = .unlock) → Def1 P G g xs σ v σ' := by
      intro g xs σ v σ' h hg
      rcases body h with ⟨_, hd⟩ | ⟨e, he, hx⟩ | ⟨fn, c, hf, hn, hb, hrun⟩
      · exact hd
      · exact (hΓ.ext g e xs σ v σ' he hx).2 (hg e he)
      · refine ⟨fun args w => callFunc_enter hf hn hb args w, ?_⟩
        intro B w0 φ w args hR hL c0 cs hu
        let b : Frame := { (default : Frame) with fn := g, kind := .deferred }
        have henter : Frame.enter P g args .deferred = b.at { tmps := args ++ Array.replicate (fn.ntmps - args.size) Go.undef, defers := [] } [.code c] := by
          simp [Frame.enter, Frame.at, hf, hb, b]
        obtain ⟨a', w', todo, hs, hleave⟩ := hrun B w0 φ w args hR hL b (c0 :: cs) (by intro fr hk; have : fr.kind = .deferred := hk; simp [tryRecover, this, hu])
        rw [← henter] at hs
        obtain ⟨e', w'', fr', hR', hs', hk', hg'⟩ := leaves_stepsD a'.defers .returning w' { b.at a' todo with mode := .returning } (c0 :: cs) rfl rfl rfl hf rfl hleave
        have hc0 : ({ c0 with mode := .returning } : Frame) = c0 := by rw [← hu]
        exact ⟨e', .returning, w'', fr', ⟨rfl, hR'⟩, by rw [hc0]; exact Comes.of_steps hs hs', hk', hg'⟩
    refine ⟨⟨?_⟩, ⟨?_, ?_⟩⟩
    · intro g xs σ v σ' h
      rcases body h with ⟨hp, _⟩ | ⟨e, he, hx⟩ | ⟨fn, c, hf, hn, hb, hrun⟩
      · exact hp
      · exact (hΓ.ext g e xs σ v σ' he hx).1
      · intro B w0 φ w args hR hL
        refine .inl ⟨callFunc_enter hf hn hb args w, ?_⟩
        intro cs
        let b : Frame := { (default : Frame) with fn := g, kind := .normal }
        have henter : Frame.enter P g args .normal = b.at { tmps := args ++ Array.replicate (fn.ntmps - args.size) Go.undef, defers := [] } [.code c] := by
          simp [Frame.enter, Frame.at, hf, hb, b]
        obtain ⟨a', w', todo, hs, hleave⟩ := hrun B w0 φ w args hR hL b cs (by intro fr hk; have : fr.kind = .normal := hk; simp [tryRecover, this])
        rw [← henter] at hs
        obtain ⟨e', w'', fr', hR', hs', hfn', hl'⟩ := leaves_steps a'.defers .returning w' { b.at a' todo with mode := .returning } cs rfl rfl rfl hf rfl hleave
        exact ⟨e', w'', fr', hR', Comes.of_steps hs hs', hfn', hl'⟩
    · intro g xs σ v σ' h
      refine (def1 (xs := xs) (σ := σ) (v := v) (σ' := σ') ?_ ?_).1
      · simp only [defOnly] at h; split at h <;> first | exact h | cases h
      · intro e he; simp only [defOnly, he] at h; cases e <;> first | rfl | cases h
    · intro g xs σ v σ' h
      refine (def1 (xs := xs) (σ := σ) (v := v) (σ' := σ') ?_ ?_).2
      · simp only [defOnly] at h; split at h <;> first | exact h | cases h
      · intro e he; simp only [defOnly, he] at h; cases e <;> first | rfl | cases h

/-- what one run makes known -/
theorem memo_ok (Γ : T AF) (M : List Memo) (L : List LMemo) (hLo : LoopsOk P G L) (hΓ : EnvOk P G Γ) (hM : ∀ m ∈ M, MemoOk P G m) (hGP : G = P.globals.size) (hdraw : ∀ call, CallSound P G call → DrawSound P G call) {f : Nat} {m : Memo} {fn : AFunc} (hg : Γ.get m.g = some (.code fn))
    (h : callF Γ M L f m.g m.xs m.σ = some (m.v, m.σ')) : MemoOk P G m := by
  obtain ⟨h1, h2⟩ := callF_sound Γ M L hLo hΓ hM hGP hdraw f
  have hd : defOnly Γ (callF Γ M L f) m.g m.xs m.σ = some (m.v, m.σ') := by simp only [defOnly, hg]; exact h
  exact ⟨h1.plain _ _ _ _ _ h, h2.enter _ _ _ _ _ hd, h2.callsD _ _ _ _ _ hd⟩
end AM
