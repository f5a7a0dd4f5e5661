import Derived.Test.YtdnefddmghhgpaaGreatDoorAMRun2
import Derived.Scope
namespace AM
open Go Go.RowKit
set_option linter.unusedVariables false
set_option linter.unusedSimpArgs false
variable {P : Program} {φ : Phi} {tm : T V} {a : Act} {w : World} {w0 : Base} {σ σ' : St} {G B : Nat} {call : CallT} {L : List LMemo}

def DrawSound (P : Program) (G : Nat) (call : CallT) : Prop :=
  ∀ n id ops dl, compDraw P n ops = some dl → ∀ fr fr' σ σ', runDraw call dl fr σ = some (fr', σ') → ∀ B w0 φ a w, Rel G B w0 φ σ w → FR n φ fr a →
    (Code.region id ops true).wp P (fun e a' w' => e = .normal ∧ ∃ φ', φ.le φ' ∧ Rel G B w0 φ' σ' w' ∧ FR n φ' fr' a') a w

theorem step_recover {ops : Array Oper} {o : Oper} {rest : List Nat} {b : Frame} {k : List Item} {cs : List Frame} (ho : ops[0]? = some o) (hr : isRecover o = true) (hg : o.guard.isNone = true) (hb : OkB b cs) :
    step P (lone (b.at a (.inRegion ops (0 :: rest) :: k)) cs w) = .next (lone (b.at (a.put o.dst .nilIface) (.inRegion ops rest :: k)) cs w) := by
  have hw : Region.wanted o (yielded ops a.tmps) = true := by
    have : o.guard = none := by cases h : o.guard <;> simp_all
    simp [Region.wanted, this]
  have hrun : (execOp a.eval o).run P w = .ok .recover w := by
    unfold isRecover at hr
    split at hr
    · rename_i c hc
      split at hr
      · rename_i hcal
        simp [execOp, hc, resolve, hcal, invoke, builtin]
      · cases hr
    · cases hr
  have hgo := stepG_op (P := P) (b := b) (a := a) (k := k) (cs := cs) (w := w) (rest := rest) ho hw
  have htr : tryRecover (b.at a (.inRegion ops (0 :: rest) :: k)) cs = none := hb _ rfl
  have hfin : (b.at a (.inRegion ops (0 :: rest) :: k)).finish .nilIface = b.at (a.put o.dst .nilIface) (.inRegion ops rest :: k) := by
    rw [Frame.finish_at, ho]; rfl
  refine step_lone_go ?_
  rw [hgo, ← hfin]
  simp only [Frame.at] at htr ⊢
  simp [stepG.apply, hrun, htr]

theorem regionR_sound (hcall : CallSound P G call) (hGP : G = P.globals.size) {n : Nat} {id : Nat} {ops : Array Oper} {o : Oper} {r : List Oper} {al : List AOper} (hops : ops.toList = o :: r) (hr : isRecover o = true) (hg : o.guard.isNone = true)
    (hd : dstOk n o.dst = true) (hc : compOpers P n ops r = some al) {fr fr' : Fr} (hrun : runOps call al ⟨putD fr.tmps o.dst .nilIface, fr.defers⟩ σ = some (fr', σ')) (hR : Rel G B w0 φ σ w) (hF : FR n φ fr a)
    {b : Frame} {k : List Item} {cs : List Frame} (hb : OkB b cs) : Come P G B w0 n φ .normal fr' σ' (lone (b.at a (.code (.region id ops false) :: k)) cs w) b k cs := by
  have hsz : ops.size = r.length + 1 := by have := congrArg List.length hops; simpa using this
  have ho : ops[0]? = some o := by have := congrArg (·[0]?) hops; simpa using this
  have hok : okDst n o.dst := by intro t ht; rw [ht] at hd; simpa [dstOk] using hd
  have hF1 := hF.put (d := o.dst) hok (v := .nilIface) (x := .nilIface) rfl hF.ds
  have hwp := runOps_sound hcall hGP (ops := ops) r al hc hrun hR hF1 (Q := fun e a' w' => e = .normal ∧ ∃ φ', φ.le φ' ∧ Rel G B w0 φ' σ' w' ∧ FR n φ' fr' a') (fun φ' a' w' h1 h2 h3 => ⟨rfl, φ', h1, h2, h3⟩)
  have heq := wpOps_eq_wpList (P := P) (ops := ops) (Q := fun e a' w' => e = .normal ∧ ∃ φ', φ.le φ' ∧ Rel G B w0 φ' σ' w' ∧ FR n φ' fr' a') r 1 (fun j => by
    have := congrArg (·[j + 1]?) hops
    simp at this
    rw [Nat.add_comm 1 j, this])
  rw [← heq] at hwp
  obtain ⟨e, a', w', ⟨rfl, φ', h1, h2, h3⟩, h4⟩ := wp_ops (P := P) _ _ _ hwp b k cs
  refine ⟨a', w', φ', h1, h2, h3, ?_⟩
  refine Arrives.of_steps (.one step_region) ?_
  rw [List.range_eq_range', hsz, List.range'_succ]
  exact Arrives.of_steps (.one (step_recover ho hr hg hb)) h4

theorem scope_sound {n : Nat} {c : Code} {fuel : Nat}
    (ih : ∀ (c' : Code) {ex : Ex} {fr fr' : Fr} {σ σ' : St}, exec call L fuel (comp P n c') fr σ = some (ex, fr', σ') → ∀ {φ : Phi} {a : Act} {w : World}, Rel G B w0 φ σ w → FR n φ fr a →
      ∀ {b : Frame} {k : List Item} {cs : List Frame}, OkB b cs → Come P G B w0 n φ ex fr' σ' (lone (b.at a (.code c' :: k)) cs w) b k cs) :
    ∀ (m l : Nat) {ex : Ex} {fr fr' : Fr} {σ σ' : St}, exec.scopeLoop (exec call L fuel) (comp P n c) m l fr σ = some (ex, fr', σ') → ∀ {φ : Phi} {a : Act} {w : World}, Rel G B w0 φ σ w → FR n φ fr a →
      ∀ {b : Frame} {k : List Item} {cs : List Frame}, OkB b cs → ∀ M : Machine, (∀ k', gotoIn l (.inScope c :: k) = some k' → Steps P M (lone (b.at a k') cs w)) →
        Come P G B w0 n φ ex fr' σ' M b k cs := by
  intro m
  induction m with
  | zero => intro l ex fr fr' σ σ' h; simp [exec.scopeLoop] at h
  | succ m ihm =>
    intro l ex fr fr' σ σ' h φ a w hR hF b k cs hb M hM
    simp only [exec.scopeLoop, findLabel_comp] at h
    cases hfl : Go.findLabel c l with
    | none =>
      rw [hfl] at h
      simp at h; obtain ⟨rfl, rfl, rfl⟩ := h
      refine ⟨a, w, φ, Phi.le.refl _, hR, hF, ?_⟩
      intro k' hk'
      exact hM k' (by simp [gotoIn, hfl, hk'])
    | some rest =>
      rw [hfl] at h
      simp only [Option.map_some] at h
      have hsteps := hM (.code rest :: .inScope c :: k) (by simp [gotoIn, hfl])
      cases hx : exec call L fuel (comp P n rest) fr σ with
      | none => rw [hx] at h; cases h
      | some res =>
        obtain ⟨ex1, fr1, σ1⟩ := res
        rw [hx] at h
        obtain ⟨a1, w1, φ1, hle, hR1, hF1, harr⟩ := ih rest hx hR hF (b := b) (k := .inScope c :: k) hb
        cases ex1 with
        | goto l2 =>
          simp only at h
          exact Come.mono hle (ihm l2 h hR1 hF1 hb M (fun k' hk' => hsteps.trans (harr k' hk')))
        | normal =>
          simp at h; obtain ⟨rfl, rfl, rfl⟩ := h
          exact ⟨a1, w1, φ1, hle, hR1, hF1, hsteps.trans (Steps.trans harr (.one step_inScope))⟩
        | exit id =>
          simp at h; obtain ⟨rfl, rfl, rfl⟩ := h
          exact ⟨a1, w1, φ1, hle, hR1, hF1, fun k' hk' => hsteps.trans (harr k' (by simp [exitTo, hk']))⟩
        | ret =>
          simp at h; obtain ⟨rfl, rfl, rfl⟩ := h
          obtain ⟨todo, hs⟩ := harr
          exact ⟨a1, w1, φ1, hle, hR1, hF1, todo, hsteps.trans hs⟩

theorem sameT_eq {α : Type} {f : α → α → Bool} (hf : ∀ a b, f a b = true → a = b) : ∀ (x y : T α), sameT f x y = true → x = y
  | .nil, y, h => by cases y <;> simp_all [sameT]
  | .node v l r, y, h => by
    cases y with
    | nil => simp [sameT] at h
    | node v' l' r' =>
      simp only [sameT, Bool.and_eq_true] at h
      obtain ⟨⟨h1, h2⟩, h3⟩ := h
      rw [sameT_eq hf l l' h2, sameT_eq hf r r' h3]
      cases v <;> cases v' <;> simp_all
      exact hf _ _ h1

theorem sameE_eq : ∀ (x y : List (V × V)), sameE x y = true → x = y
  | [], y, h => by cases y <;> simp_all [sameE]
  | (a, b) :: r, y, h => by
    cases y with
    | nil => simp [sameE] at h
    | cons c s =>
      obtain ⟨c, d⟩ := c
      simp only [sameE, Bool.and_eq_true] at h
      rw [sameV_eq a c h.1.1, sameV_eq b d h.1.2, sameE_eq r s h.2]

theorem sameN_eq : ∀ (x y : List Nat), sameN x y = true → x = y
  | [], y, h => by cases y <;> simp_all [sameN]
  | a :: r, y, h => by
    cases y with
    | nil => simp [sameN] at h
    | cons c s =>
      simp only [sameN, Bool.and_eq_true, beq_iff_eq] at h
      rw [h.1, sameN_eq r s h.2]

theorem sameO_eq (x y : Obj) (h : sameO x y = true) : x = y := by
  cases x <;> cases y <;> simp [sameO] at h
  · obtain ⟨⟨⟨⟨rfl, rfl⟩, rfl⟩, h1⟩, h2⟩ := h
    rw [sameL_eq _ _ h1, sameT_eq sameV_eq _ _ h2]
  · rw [sameE_eq _ _ h]
  · rfl

theorem sameSt_eq (x y : St) (h : sameSt x y = true) : x = y := by
  obtain ⟨a, b, c⟩ := x; obtain ⟨a', b', c'⟩ := y
  simp only [sameSt, Bool.and_eq_true, beq_iff_eq] at h
  obtain ⟨⟨rfl, h1⟩, h2⟩ := h
  rw [sameT_eq sameO_eq _ _ h1, sameT_eq sameN_eq _ _ h2]


/-- what a loop that is known is asked for -/
def LoopOk (P : Program) (G : Nat) (m : LMemo) : Prop :=
  ∀ n (x : Code), comp P n x = m.b → ∀ B w0 φ a w, Rel G B w0 φ m.σ w → FR n φ m.fr a → ∀ (b : Frame) (k : List Item) (cs : List Frame), OkB b cs →
    Come P G B w0 n φ m.ex m.fr' m.σ' (lone (b.at a (.code x :: .inLoop x :: k)) cs w) b k cs
def LoopsOk (P : Program) (G : Nat) (L : List LMemo) : Prop := ∀ m ∈ L, LoopOk P G m

theorem sameDs_eq : ∀ (x y : Dfs), sameDs x y = true → x = y
  | [], y, h => by cases y <;> simp_all [sameDs]
  | (f, a) :: r, y, h => by
    cases y with
    | nil => simp [sameDs] at h
    | cons c s =>
      obtain ⟨g, b⟩ := c
      simp only [sameDs, Bool.and_eq_true, beq_iff_eq] at h
      rw [h.1.1, sameL_eq a b h.1.2, sameDs_eq r s h.2]
theorem sameFr_eq (x y : Fr) (h : sameFr x y = true) : x = y := by
  obtain ⟨a, b⟩ := x; obtain ⟨c, d⟩ := y
  simp only [sameFr, Bool.and_eq_true] at h
  rw [sameT_eq sameV_eq _ _ h.1, sameDs_eq _ _ h.2]
theorem loopGet_ok : ∀ {L : List LMemo} {b : AC} {fr fr' : Fr} {σ σ' : St} {ex : Ex}, LoopsOk P G L → loopGet L b fr σ = some (ex, fr', σ') → LoopOk P G ⟨b, fr, σ, ex, fr', σ'⟩
  | [], b, fr, fr', σ, σ', ex, hL, h => by simp [loopGet] at h
  | m :: r, b, fr, fr', σ, σ', ex, hL, h => by
    simp only [loopGet] at h
    split at h
    · rename_i hc
      simp only [Bool.and_eq_true, decide_eq_true_eq] at hc
      obtain ⟨_, h1, h2, h3⟩ := hc
      simp at h; obtain ⟨rfl, rfl, rfl⟩ := h
      rw [← h3, ← sameFr_eq _ _ h1, ← sameSt_eq _ _ h2]
      exact hL m (by simp)
    · exact loopGet_ok (fun m hm => hL m (by simp [hm])) h

theorem exec_sound (hcall : CallSound P G call) (hL : LoopsOk P G L) (hdraw : DrawSound P G call) (hGP : G = P.globals.size) {n : Nat} : ∀ (f : Nat) (c : Code) {ex : Ex} {fr fr' : Fr} {σ σ' : St}, exec call L f (comp P n c) fr σ = some (ex, fr', σ') →
    ∀ {φ : Phi} {a : Act} {w : World}, Rel G B w0 φ σ w → FR n φ fr a → ∀ {b : Frame} {k : List Item} {cs : List Frame}, OkB b cs → Come P G B w0 n φ ex fr' σ' (lone (b.at a (.code c :: k)) cs w) b k cs := by
  intro f
  induction f using Nat.strongRecOn with
  | _ f ih =>
    intro c ex fr fr' σ σ' h φ a w hR hF b k cs hb
    cases f with
    | zero => simp [exec] at h
    | succ f =>
      cases c with
      | skip =>
        simp [comp, exec] at h; obtain ⟨rfl, rfl, rfl⟩ := h
        exact ⟨a, w, φ, Phi.le.refl _, hR, hF, .one step_skip⟩
      | label l =>
        simp [comp, exec] at h; obtain ⟨rfl, rfl, rfl⟩ := h
        exact ⟨a, w, φ, Phi.le.refl _, hR, hF, .one step_label⟩
      | exit id =>
        simp [comp, exec] at h; obtain ⟨rfl, rfl, rfl⟩ := h
        exact ⟨a, w, φ, Phi.le.refl _, hR, hF, fun k' hk => .one (step_exit hk)⟩
      | goto l =>
        simp [comp, exec] at h; obtain ⟨rfl, rfl, rfl⟩ := h
        exact ⟨a, w, φ, Phi.le.refl _, hR, hF, fun k' hk => .one (step_goto hk)⟩
      | ret =>
        simp [comp, exec] at h; obtain ⟨rfl, rfl, rfl⟩ := h
        exact ⟨a, w, φ, Phi.le.refl _, hR, hF, _, .one step_ret⟩
      | refuse why => simp [comp, exec] at h
      | rangeFunc f' ps as bd => simp [comp, exec] at h
      | region id ops d =>
        simp only [comp] at h
        cases d with
        | true =>
          simp only [if_true] at h
          split at h
          · rename_i dl hdl
            simp only [exec] at h
            split at h
            · rename_i fr1 σ1 hrd
              simp at h; obtain ⟨rfl, rfl, rfl⟩ := h
              exact come_of_wp (hdraw n id ops dl hdl fr fr1 σ σ1 hrd B w0 φ a w hR hF) b k cs
            · cases h
          · simp [exec] at h
        | false =>
          simp only [Bool.false_eq_true, if_false] at h
          split at h
          · rename_i o r hops
            split at h
            · rename_i hcond
              obtain ⟨h1, h2, h3⟩ := hcond
              split at h
              · rename_i al hal
                simp only [exec] at h
                split at h
                · rename_i fr1 σ1 hrd
                  simp at h; obtain ⟨rfl, rfl, rfl⟩ := h
                  exact regionR_sound hcall hGP hops h1 h2 h3 hal hrd hR hF hb
                · cases h
              · simp [exec] at h
            · split at h
              · rename_i al hal
                simp only [exec] at h
                split at h
                · rename_i fr1 σ1 hrd
                  simp at h; obtain ⟨rfl, rfl, rfl⟩ := h
                  rw [← hops] at hal
                  exact come_of_wp (wp_region_list (runOps_sound hcall hGP (ops := ops) ops.toList al hal hrd hR hF (fun φ' a' w' h1 h2 h3 => ⟨rfl, φ', h1, h2, h3⟩))) b k cs
                · cases h
              · simp [exec] at h
          · rename_i hops
            simp [exec, runOps] at h; obtain ⟨rfl, rfl, rfl⟩ := h
            refine come_of_wp (wp_region_list ?_) b k cs
            rw [hops]
            exact ⟨rfl, φ, Phi.le.refl _, hR, hF⟩
      | seq x y =>
        simp only [comp, exec] at h
        cases hx : exec call L f (comp P n x) fr σ with
        | none => rw [hx] at h; cases h
        | some res =>
          obtain ⟨ex1, fr1, σ1⟩ := res
          rw [hx] at h
          have hc1 := ih f (by omega) x hx hR hF (b := b) (k := .code y :: k) hb
          cases ex1 with
          | normal =>
            simp only at h
            obtain ⟨a1, w1, φ1, hle, hR1, hF1, harr⟩ := hc1
            have hc2 := ih f (by omega) y h hR1 hF1 (b := b) (k := k) hb
            exact Come.of_steps (.head step_seq harr) (Come.mono hle hc2)
          | exit id =>
            simp at h; obtain ⟨rfl, rfl, rfl⟩ := h
            exact Come.of_steps (.one step_seq) (Come.pass rfl (by simp) hc1)
          | goto l =>
            simp at h; obtain ⟨rfl, rfl, rfl⟩ := h
            exact Come.of_steps (.one step_seq) (Come.pass rfl (by simp) hc1)
          | ret =>
            simp at h; obtain ⟨rfl, rfl, rfl⟩ := h
            exact Come.of_steps (.one step_seq) (Come.pass rfl (by simp) hc1)
      | cond c x y =>
        simp only [comp] at h
        split at h
        · rename_i c' hc'
          simp only [exec] at h
          split at h
          · rename_i t ht
            have hG : GR P φ := fun g hg => (hR.glob g (by omega)).2
            have hv := opd_rel (tm := fr.tmps) (a := a) hG hc' (hF.tr _)
            rw [ht] at hv
            have hv : a.eval c = .bool t := hv
            refine Come.of_steps (.one (step_cond hv)) ?_
            cases t with
            | true => simp only [if_true] at h ⊢; exact ih f (by omega) x h hR hF hb
            | false => simp only [Bool.false_eq_true, if_false] at h ⊢; exact ih f (by omega) y h hR hF hb
          · cases h
        · simp [exec] at h
      | block id x =>
        simp only [comp, exec] at h
        cases hx : exec call L f (comp P n x) fr σ with
        | none => rw [hx] at h; cases h
        | some res =>
          obtain ⟨ex1, fr1, σ1⟩ := res
          rw [hx] at h
          obtain ⟨a1, w1, φ1, hle, hR1, hF1, harr⟩ := ih f (by omega) x hx hR hF (b := b) (k := .inBlock id :: k) hb
          cases ex1 with
          | normal =>
            simp at h; obtain ⟨rfl, rfl, rfl⟩ := h
            exact ⟨a1, w1, φ1, hle, hR1, hF1, .head step_block (Steps.trans harr (.one step_inBlock))⟩
          | exit id' =>
            simp only at h
            by_cases hid : id' = id
            · rw [if_pos hid] at h
              simp at h; obtain ⟨rfl, rfl, rfl⟩ := h
              exact ⟨a1, w1, φ1, hle, hR1, hF1, .head step_block (harr k (by simp [exitTo, hid]))⟩
            · rw [if_neg hid] at h
              simp at h; obtain ⟨rfl, rfl, rfl⟩ := h
              refine ⟨a1, w1, φ1, hle, hR1, hF1, fun k' hk => .head step_block (harr k' ?_)⟩
              have : (id == id') = false := by simp; exact fun h => hid h.symm
              simp [exitTo, this, hk]
          | goto l =>
            simp at h; obtain ⟨rfl, rfl, rfl⟩ := h
            exact ⟨a1, w1, φ1, hle, hR1, hF1, fun k' hk => .head step_block (harr k' (by simp [gotoIn, hk]))⟩
          | ret =>
            simp at h; obtain ⟨rfl, rfl, rfl⟩ := h
            obtain ⟨todo, hs⟩ := harr
            exact ⟨a1, w1, φ1, hle, hR1, hF1, todo, .head step_block hs⟩
      | scope x =>
        simp only [comp, exec] at h
        cases hx : exec call L f (comp P n x) fr σ with
        | none => rw [hx] at h; cases h
        | some res =>
          obtain ⟨ex1, fr1, σ1⟩ := res
          rw [hx] at h
          obtain ⟨a1, w1, φ1, hle, hR1, hF1, harr⟩ := ih f (by omega) x hx hR hF (b := b) (k := .inScope x :: k) hb
          cases ex1 with
          | normal =>
            simp at h; obtain ⟨rfl, rfl, rfl⟩ := h
            exact ⟨a1, w1, φ1, hle, hR1, hF1, .head step_scope (Steps.trans harr (.one step_inScope))⟩
          | exit id =>
            simp at h; obtain ⟨rfl, rfl, rfl⟩ := h
            exact ⟨a1, w1, φ1, hle, hR1, hF1, fun k' hk => .head step_scope (harr k' (by simp [exitTo, hk]))⟩
          | goto l =>
            simp only at h
            exact Come.mono hle (scope_sound (c := x) (fun c' {_} {_} {_} {_} {_} hx => ih f (by omega) c' hx) f l h hR1 hF1 hb _ (fun k' hk' => .head step_scope (harr k' hk')))
          | ret =>
            simp at h; obtain ⟨rfl, rfl, rfl⟩ := h
            obtain ⟨todo, hs⟩ := harr
            exact ⟨a1, w1, φ1, hle, hR1, hF1, todo, .head step_scope hs⟩
      | loop x =>
        have key : ∀ (m : Nat), m ≤ f + 1 → ∀ {ex : Ex} {fr fr' : Fr} {σ σ' : St}, exec call L m (.loop (comp P n x)) fr σ = some (ex, fr', σ') → ∀ {φ : Phi} {a : Act} {w : World}, Rel G B w0 φ σ w → FR n φ fr a →
            Come P G B w0 n φ ex fr' σ' (lone (b.at a (.code x :: .inLoop x :: k)) cs w) b k cs := by
          intro m
          induction m with
          | zero => intro _ ex fr fr' σ σ' h; simp [exec] at h
          | succ m ihm =>
            intro hm ex fr fr' σ σ' h φ a w hR hF
            simp only [exec] at h
            cases hg : loopGet L (comp P n x) fr σ with
            | some res =>
              obtain ⟨ex1, fr1, σ1⟩ := res
              rw [hg] at h
              simp at h; obtain ⟨rfl, rfl, rfl⟩ := h
              exact loopGet_ok hL hg n x rfl B w0 φ a w hR hF b k cs hb
            | none =>
              rw [hg] at h
              simp only at h
              cases hx : exec call L m (comp P n x) fr σ with
              | none => rw [hx] at h; cases h
              | some res =>
                obtain ⟨ex1, fr1, σ1⟩ := res
                rw [hx] at h
                have hc1 := ih m (by omega) x hx hR hF (b := b) (k := .inLoop x :: k) hb
                cases ex1 with
                | normal =>
                  simp only at h
                  obtain ⟨a1, w1, φ1, hle, hR1, hF1, harr⟩ := hc1
                  exact Come.of_steps (Steps.trans harr (.one step_inLoop)) (Come.mono hle (ihm (by omega) h hR1 hF1))
                | exit id =>
                  simp at h; obtain ⟨rfl, rfl, rfl⟩ := h
                  exact Come.pass rfl (by simp) hc1
                | goto l =>
                  simp at h; obtain ⟨rfl, rfl, rfl⟩ := h
                  exact Come.pass rfl (by simp) hc1
                | ret =>
                  simp at h; obtain ⟨rfl, rfl, rfl⟩ := h
                  exact Come.pass rfl (by simp) hc1
        simp only [comp] at h
        exact Come.of_steps (.one step_loop) (key (f + 1) (Nat.le_refl _) h hR hF)

theorem loop_sound (hcall : CallSound P G call) (hL : LoopsOk P G L) (hdraw : DrawSound P G call) (hGP : G = P.globals.size) {n : Nat} {x : Code} {b : Frame} {k : List Item} {cs : List Frame} (hb : OkB b cs) :
    ∀ (m : Nat) {ex : Ex} {fr fr' : Fr} {σ σ' : St}, exec call L m (.loop (comp P n x)) fr σ = some (ex, fr', σ') → ∀ {φ : Phi} {a : Act} {w : World}, Rel G B w0 φ σ w → FR n φ fr a →
            Come P G B w0 n φ ex fr' σ' (lone (b.at a (.code x :: .inLoop x :: k)) cs w) b k cs := by
  intro m
  induction m with
  | zero => intro ex fr fr' σ σ' h; simp [exec] at h
  | succ m ihm =>
    intro ex fr fr' σ σ' h φ a w hR hF
    simp only [exec] at h
    cases hg : loopGet L (comp P n x) fr σ with
    | some res =>
      obtain ⟨ex1, fr1, σ1⟩ := res
      rw [hg] at h
      simp at h; obtain ⟨rfl, rfl, rfl⟩ := h
      exact loopGet_ok hL hg n x rfl B w0 φ a w hR hF b k cs hb
    | none =>
      rw [hg] at h
      simp only at h
      cases hx : exec call L m (comp P n x) fr σ with
      | none => rw [hx] at h; cases h
      | some res =>
        obtain ⟨ex1, fr1, σ1⟩ := res
        rw [hx] at h
        have hc1 := exec_sound hcall hL hdraw hGP m x hx hR hF (b := b) (k := .inLoop x :: k) hb
        cases ex1 with
        | normal =>
          simp only at h
          obtain ⟨a1, w1, φ1, hle, hR1, hF1, harr⟩ := hc1
          exact Come.of_steps (Steps.trans harr (.one step_inLoop)) (Come.mono hle (ihm h hR1 hF1))
        | exit id =>
          simp at h; obtain ⟨rfl, rfl, rfl⟩ := h
          exact Come.pass rfl (by simp) hc1
        | goto l =>
          simp at h; obtain ⟨rfl, rfl, rfl⟩ := h
          exact Come.pass rfl (by simp) hc1
        | ret =>
          simp at h; obtain ⟨rfl, rfl, rfl⟩ := h
          exact Come.pass rfl (by simp) hc1
end AM
