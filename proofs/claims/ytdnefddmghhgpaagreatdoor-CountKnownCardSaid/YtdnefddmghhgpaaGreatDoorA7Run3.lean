import Derived.Test.YtdnefddmghhgpaaGreatDoorA7Run2
import Derived.Scope
namespace AM
open Go Go.RowKit
set_option linter.unusedVariables false
set_option linter.unusedSimpArgs false
variable {P : Program} {φ : Phi} {tm : T V} {a : Act} {w : World} {w0 : Base} {σ σ' : St} {G B : Nat} {call : CallN} {L : List LMemo}

def DrawSound (P : Program) (G : Nat) (call : CallT) : Prop :=
  ∀ n id ops dl, compDraw P n ops = some dl → ∀ fr fr' σ σ', runDraw call dl fr σ = some (fr', σ') → ∀ (ro : Option Nat) B w0 φ a w, (ro = none ∨ ∀ o ∈ ops.toList, ∀ c, o.op ≠ .defer c) → w0.P = P → Rel G B w0 φ σ w → FR P n φ fr a →
    (Code.region id ops true).wpIn (fw ro) 0 P (fun e a' w' => e = .normal ∧ ∃ φ', φ.le φ' ∧ Rel G B w0 φ' σ' w' ∧ FR P n φ' fr' a') a w

theorem step_recover {ops : Array Oper} {o : Oper} {rest : List Nat} {b : Frame} {k : List Item} {cs : List Frame} (ho : ops[0]? = some o) (hr : isRecover o = true) (hg : o.guard.isNone = true) (hb : OkB false b cs) :
    step P (lone (b.at a (.inRegion ops (0 :: rest) :: k)) cs w) = .next (lone (b.at (a.put o.dst .nilIface) (.inRegion ops rest :: k)) cs w) := by
  have hw : Region.wanted o (yielded ops a.tmps) = true := by
    have : o.guard = none := by cases h : o.guard <;> simp_all
    simp [Region.wanted, this]
  have hrun : (execOp a.eval o).run P w = .ok .recover w := by
    unfold isRecover at hr
    split at hr
    · rename_i c hc
      split at hr
      · rename_i hcal
        simp [execOp, hc, resolve, hcal, invoke, builtin]
      · cases hr
    · cases hr
  have hgo := stepG_op (P := P) (b := b) (a := a) (k := k) (cs := cs) (w := w) (rest := rest) ho hw
  have htr : tryRecover (b.at a (.inRegion ops (0 :: rest) :: k)) cs = none := hb.quiet rfl _ rfl
  have hfin : (b.at a (.inRegion ops (0 :: rest) :: k)).finish .nilIface = b.at (a.put o.dst .nilIface) (.inRegion ops rest :: k) := by
    rw [Frame.finish_at, ho]; rfl
  refine step_lone_go ?_
  rw [hgo, ← hfin]
  simp only [Frame.at] at htr ⊢
  simp [stepG.apply, hrun, htr]

theorem regionR_sound (hcall : CallSound P G call) (hGP : P.globals.size ≤ G) (hP : w0.P = P) {n : Nat} {id : Nat} {ops : Array Oper} {o : Oper} {r : List Oper} {al : List AOper} (hops : ops.toList = o :: r) (hr : isRecover o = true) (hg : o.guard.isNone = true)
    (hd : dstOk n o.dst = true) (hc : compOpers P n ops r = some al) {fr : Fr} {outs : List (Fr × St)} (hrun : runOps call al ⟨putD fr.tmps o.dst .nilIface, fr.defers⟩ σ = some outs) (hR : Rel G B w0 φ σ w) (hF : FR P n φ fr a)
    {b : Frame} {k : List Item} {cs : List Frame} (hb : OkB false b cs) : Comes1 P G B w0 n φ (outs.map fun r => (.normal, r.1, r.2)) (lone (b.atR a (.code (.region id ops false) :: k)) cs w) b k cs := by
  have hsz : ops.size = r.length + 1 := by have := congrArg List.length hops; simpa using this
  have ho : ops[0]? = some o := by have := congrArg (·[0]?) hops; simpa using this
  have hok : okDst n o.dst := by intro t ht; rw [ht] at hd; simpa [dstOk] using hd
  have hF1 := hF.put (d := o.dst) hok (v := .nilIface) (x := .nilIface) rfl hF.ds
  have hbr := hb.plain rfl
  have hwp := runOps_sound (ro := b.roundOf) hcall hGP hP (ops := ops) r al hc (.inl hbr) hrun hR hF1 (Q := fun e a' w' => e = .normal ∧ ∃ q ∈ outs, ∃ φ', φ.le φ' ∧ Rel G B w0 φ' q.2 w' ∧ FR P n φ' q.1 a') (fun q hq φ' a' w' h1 h2 h3 => ⟨rfl, q, hq, φ', h1, h2, h3⟩)
  have heq := wpOpsIn_eq_wpListIn (F := fw b.roundOf) (n := 0) (P := P) (ops := ops) (Q := fun e a' w' => e = .normal ∧ ∃ q ∈ outs, ∃ φ', φ.le φ' ∧ Rel G B w0 φ' q.2 w' ∧ FR P n φ' q.1 a') r 1 (fun j => by
    have := congrArg (·[j + 1]?) hops
    simp at this
    rw [Nat.add_comm 1 j, this])
  rw [← heq] at hwp
  obtain ⟨e, a', w', ⟨rfl, q, hq, φ', h1, h2, h3⟩, h4⟩ := wp_opsIn (P := P) _ _ _ hwp b k cs rfl trivial (room_wide _)
  refine ⟨(.normal, q.1, q.2), List.mem_map.2 ⟨q, hq, rfl⟩, a', w', φ', h1, h2, h3, ?_⟩
  refine ArrivesIn.of_steps (stepsR_one stepR_region) ?_
  rw [List.range_eq_range', hsz, List.range'_succ]
  have hs := step_recover (P := P) (w := w) (a := a) (rest := List.range' (0 + 1) r.length) (k := k) ho hr hg hb
  rw [← Frame.atR_of_none hbr, ← Frame.atR_of_none hbr] at hs
  exact ArrivesIn.of_steps (stepsR_one hs) h4

theorem arr_inBlock {m : Machine} {b : Frame} {id : Nat} {k : List Item} {cs : List Frame} {ex : Ex} (h1 : ex ≠ .normal) (h2 : ex ≠ .exit id) (h : ArrR P m b (.inBlock id :: k) cs (toExit ex) a w) : ArrR P m b k cs (toExit ex) a w := by
  cases ex with
  | normal => exact (h1 rfl).elim
  | exit id' =>
    have : (id == id') = false := by simp; rintro rfl; exact h2 rfl
    exact ⟨fun k' hk => h.1 k' (by simp [exitTo, this, hk]), fun hr hk => h.2 hr (by simp [exitTo, this, hk])⟩
  | goto l => exact ⟨fun k' hk => h.1 k' (by simp [gotoIn, hk]), fun hr hk => h.2 hr (by simp [gotoIn, hk])⟩
  | ret => exact h

theorem arr_inScope {m : Machine} {b : Frame} {c : Code} {k : List Item} {cs : List Frame} {ex : Ex} (h1 : ex ≠ .normal) (h2 : ∀ l, ex ≠ .goto l) (h : ArrR P m b (.inScope c :: k) cs (toExit ex) a w) : ArrR P m b k cs (toExit ex) a w := by
  cases ex with
  | normal => exact (h1 rfl).elim
  | exit id => exact ⟨fun k' hk => h.1 k' (by simp [exitTo, hk]), fun hr hk => h.2 hr (by simp [exitTo, hk])⟩
  | goto l => exact (h2 l rfl).elim
  | ret => exact h

/-- a jump that stands before the row -/
theorem arr_jump {b : Frame} {m : Machine} {k : List Item} {cs : List Frame} {ex : Ex} {rd : Bool} (hb : OkB rd b cs) (h : StepsR P b m (lone (b.atR a (((jumpC (some ex)).map Item.code).toList ++ k)) cs w)) : ArrR P m b k cs (toExit ex) a w := by
  cases ex with
  | normal => exact StepsIn.trans h (stepsR_one stepR_skip)
  | exit id => exact ⟨fun k' hk => StepsIn.trans h (stepsR_one (stepR_exit hk)), fun _ hk => ⟨k, hk, h⟩⟩
  | goto l => exact ⟨fun k' hk => StepsIn.trans h (stepsR_one (stepR_goto hk)), fun _ hk => ⟨k, hk, h⟩⟩
  | ret => exact ⟨fun hr => ⟨_, StepsIn.trans h (stepsR_one (stepR_ret hr))⟩, fun _ => ⟨k, h⟩⟩

theorem scope_sound {rd : Bool} {n : Nat} {c : Code} {fuel : Nat}
    (ih : ∀ (c' : Code) {fr : Fr} {σ : St} {outs : List (Ex × Fr × St)}, exec call L fuel (comp P rd n c') fr σ = some outs → ∀ {φ : Phi} {a : Act} {w : World}, Rel G B w0 φ σ w → FR P n φ fr a →
      ∀ {b : Frame} {k : List Item} {cs : List Frame}, OkB rd b cs → Comes1 P G B w0 n φ outs (lone (b.atR a (.code c' :: k)) cs w) b k cs) :
    ∀ (m l : Nat) {fr : Fr} {σ : St} {outs : List (Ex × Fr × St)}, exec.scopeLoop (exec call L fuel) (comp P rd n c) m l fr σ = some outs → ∀ {φ : Phi} {a : Act} {w : World}, Rel G B w0 φ σ w → FR P n φ fr a →
      ∀ {b : Frame} {k : List Item} {cs : List Frame}, OkB rd b cs → ∀ M : Machine, ArrR P M b (.inScope c :: k) cs (.goto l) a w →
        Comes1 P G B w0 n φ outs M b k cs := by
  intro m
  induction m with
  | zero => intro l fr σ outs h; simp [exec.scopeLoop] at h
  | succ m ihm =>
    intro l fr σ outs h φ a w hR hF b k cs hb M hM
    simp only [exec.scopeLoop, findLabel_comp] at h
    cases hfl : Go.findLabel c l with
    | none =>
      rw [hfl] at h
      simp at h; subst h
      refine ⟨_, List.mem_singleton.2 rfl, a, w, φ, Phi.le.refl _, hR, hF, ?_⟩
      exact ⟨fun k' hk' => hM.1 k' (by simp [gotoIn, hfl, hk']), fun hr hk => hM.2 hr (by simp [gotoIn, hfl, hk])⟩
    | some rest =>
      rw [hfl] at h
      simp only [Option.map_some] at h
      have hsteps := hM.1 (.code rest :: .inScope c :: k) (by simp [gotoIn, hfl])
      obtain ⟨ol, hol, hall⟩ := allO_spec h
      obtain ⟨o, ho, a1, w1, φ1, hle, hR1, hF1, harr⟩ := ih rest hol hR hF (b := b) (k := .inScope c :: k) hb
      obtain ⟨os, hos, hsub⟩ := hall o ho
      obtain ⟨ex1, fr1, σ1⟩ := o
      have harr := ArrivesIn.of_steps hsteps harr
      cases ex1 with
      | goto l2 => exact Comes1.mono hle ((ihm l2 hos hR1 hF1 hb M harr).sub hsub)
      | normal =>
        cases hos
        exact ⟨_, hsub _ (List.mem_singleton.2 rfl), a1, w1, φ1, hle, hR1, hF1, StepsIn.trans harr (stepsR_one (step_lone_go (by simp [stepG, stepG.exec, Frame.atR])))⟩
      | exit id =>
        cases hos
        exact ⟨_, hsub _ (List.mem_singleton.2 rfl), a1, w1, φ1, hle, hR1, hF1, arr_inScope (by simp) (by simp) harr⟩
      | ret =>
        cases hos
        exact ⟨_, hsub _ (List.mem_singleton.2 rfl), a1, w1, φ1, hle, hR1, hF1, arr_inScope (ex := .ret) (by simp) (by simp) harr⟩

theorem sameT_eq {α : Type} {f : α → α → Bool} (hf : ∀ a b, f a b = true → a = b) : ∀ (x y : T α), sameT f x y = true → x = y
  | .nil, y, h => by cases y <;> simp_all [sameT]
  | .node v l r, y, h => by
    cases y with
    | nil => simp [sameT] at h
    | node v' l' r' =>
      simp only [sameT, Bool.and_eq_true] at h
      obtain ⟨⟨h1, h2⟩, h3⟩ := h
      rw [sameT_eq hf l l' h2, sameT_eq hf r r' h3]
      cases v <;> cases v' <;> simp_all
      exact hf _ _ h1

theorem sameE_eq : ∀ (x y : List (V × V)), sameE x y = true → x = y
  | [], y, h => by cases y <;> simp_all [sameE]
  | (a, b) :: r, y, h => by
    cases y with
    | nil => simp [sameE] at h
    | cons c s =>
      obtain ⟨c, d⟩ := c
      simp only [sameE, Bool.and_eq_true] at h
      rw [sameV_eq a c h.1.1, sameV_eq b d h.1.2, sameE_eq r s h.2]

theorem sameN_eq : ∀ (x y : List Nat), sameN x y = true → x = y
  | [], y, h => by cases y <;> simp_all [sameN]
  | a :: r, y, h => by
    cases y with
    | nil => simp [sameN] at h
    | cons c s =>
      simp only [sameN, Bool.and_eq_true, beq_iff_eq] at h
      rw [h.1, sameN_eq r s h.2]

theorem sameO_eq (x y : Obj) (h : sameO x y = true) : x = y := by
  cases x <;> cases y <;> simp only [sameO, Bool.and_eq_true, beq_iff_eq, decide_eq_true_eq, Bool.false_eq_true] at h
  · obtain ⟨⟨⟨⟨rfl, rfl⟩, rfl⟩, h1⟩, h2⟩ := h
    rw [sameL_eq _ _ h1, sameT_eq sameV_eq _ _ h2]
  · obtain ⟨⟨h1, h2⟩, rfl⟩ := h
    rw [sameE_eq _ _ h1, sameN_eq _ _ h2]
  · obtain ⟨⟨⟨rfl, rfl⟩, h1⟩, rfl⟩ := h
    rw [sameN_eq _ _ h1]
  · rfl
  · obtain ⟨⟨⟨⟨⟨rfl, rfl⟩, h1⟩, h2⟩, rfl⟩, rfl⟩ := h
    rw [sameT_eq sameV_eq _ _ h1, sameN_eq _ _ h2]
  · rfl

theorem sameSt_eq (x y : St) (h : sameSt x y = true) : x = y := by
  obtain ⟨a, b, c⟩ := x; obtain ⟨a', b', c'⟩ := y
  simp only [sameSt, Bool.and_eq_true, beq_iff_eq] at h
  obtain ⟨⟨rfl, h1⟩, h2⟩ := h
  rw [sameT_eq sameO_eq _ _ h1, sameT_eq sameN_eq _ _ h2]


/-- what a loop that is known is asked for -/
def LoopOk (P : Program) (G : Nat) (m : LMemo) : Prop :=
  ∀ rd n (x : Code), comp P rd n x = m.b → ∀ B w0 φ a w, w0.P = P → Rel G B w0 φ m.σ w → FR P n φ m.fr a → ∀ (b : Frame) (k : List Item) (cs : List Frame), OkB rd b cs →
    Come P G B w0 n φ m.ex m.fr' m.σ' (lone (b.atR a (.code x :: .inLoop x :: k)) cs w) b k cs
def LoopsOk (P : Program) (G : Nat) (L : List LMemo) : Prop := ∀ m ∈ L, LoopOk P G m

theorem sameDs_eq : ∀ (x y : Dfs), sameDs x y = true → x = y
  | [], y, h => by cases y <;> simp_all [sameDs]
  | .call f a :: r, y, h => by
    cases y with
    | nil => simp [sameDs] at h
    | cons c s =>
      cases c with
      | mark b => simp [sameDs] at h
      | del k a b => simp [sameDs] at h
      | call g b =>
        simp only [sameDs, Bool.and_eq_true, beq_iff_eq] at h
        rw [h.1.1, sameL_eq a b h.1.2, sameDs_eq r s h.2]
  | .mark a :: r, y, h => by
    cases y with
    | nil => simp [sameDs] at h
    | cons c s =>
      cases c with
      | call g b => simp [sameDs] at h
      | del k a b => simp [sameDs] at h
      | mark b =>
        simp only [sameDs, Bool.and_eq_true, beq_iff_eq] at h
        rw [h.1, sameDs_eq r s h.2]
  | .del k a b :: r, y, h => by
    cases y with
    | nil => simp [sameDs] at h
    | cons c s =>
      cases c with
      | call g b => simp [sameDs] at h
      | mark b => simp [sameDs] at h
      | del k' a' b' =>
        simp only [sameDs, Bool.and_eq_true, decide_eq_true_eq] at h
        obtain ⟨⟨⟨rfl, h1⟩, h2⟩, h3⟩ := h
        rw [sameV_eq _ _ h1, sameV_eq _ _ h2, sameDs_eq r s h3]
theorem sameFr_eq (x y : Fr) (h : sameFr x y = true) : x = y := by
  obtain ⟨a, b⟩ := x; obtain ⟨c, d⟩ := y
  simp only [sameFr, Bool.and_eq_true] at h
  rw [sameT_eq sameV_eq _ _ h.1, sameDs_eq _ _ h.2]
theorem loopGet_ok : ∀ {L : List LMemo} {b : AC} {fr fr' : Fr} {σ σ' : St} {ex : Ex}, LoopsOk P G L → loopGet L b fr σ = some (ex, fr', σ') → LoopOk P G ⟨b, fr, σ, ex, fr', σ'⟩
  | [], b, fr, fr', σ, σ', ex, hL, h => by simp [loopGet] at h
  | m :: r, b, fr, fr', σ, σ', ex, hL, h => by
    simp only [loopGet] at h
    split at h
    · rename_i hc
      simp only [Bool.and_eq_true, decide_eq_true_eq] at hc
      obtain ⟨_, h1, h2, h3⟩ := hc
      simp at h; obtain ⟨rfl, rfl, rfl⟩ := h
      rw [← h3, ← sameFr_eq _ _ h1, ← sameSt_eq _ _ h2]
      exact hL m (by simp)
    · exact loopGet_ok (fun m hm => hL m (by simp [hm])) h

theorem stepR_inScope' {b : Frame} {c : Code} {k : List Item} {cs : List Frame} : step P (lone (b.atR a (.inScope c :: k)) cs w) = .next (lone (b.atR a k) cs w) :=
  step_lone_go (by simp [stepG, stepG.exec, Frame.atR])
theorem stepR_scope' {b : Frame} {c : Code} {k : List Item} {cs : List Frame} : step P (lone (b.atR a (.code (.scope c) :: k)) cs w) = .next (lone (b.atR a (.code c :: .inScope c :: k)) cs w) :=
  step_lone_go (by simp [stepG, stepG.exec, Frame.atR])

/-- entering a range over a function that the library answers at once -/
theorem stepR_rangeFunc_value {b : Frame} {k : List Item} {cs : List Frame} {g : Operand} {ps : Array Tmp} {assign body : Code} {l : Nat} {mark : List Deferred} {w₁ w₁' w₂ : World} {d : Deferred} {v : Value}
    (he : (Instr.enterLoop b.fn a.tmps ps assign body b.roundOf).run P w = .ok (l, mark) w₁)
    (hres : (resolve a.eval (rangeCall g l) 0).run P w₁ = .ok d w₁') (hinv : (invoke d.target d.args).run P w₁' = .ok (.value v) w₂) :
    step P (lone (b.atR a (.code (.rangeFunc g ps assign body) :: k)) cs w) = .next (lone (b.atR { a with defers := mark ++ a.defers } (.endRangeFunc l :: k)) cs w₂) :=
  step_lone_go (by
    have hev := Frame.eval_atR b { a with defers := mark ++ a.defers } (.inRangeFunc l :: k)
    simp only [Frame.atR] at hev
    have hres' : Sem.run P (resolve ({ tmps := a.tmps, defers := mark ++ a.defers } : Act).eval { callee := .value g, args := #[.const (.func (.yield l) #[] #[])], argTypes := #[] } 0) w₁ = .ok d w₁' := hres
    simp [stepG, stepG.exec, Frame.atR, Sem.runT_eq, he, GStep.bare_after, stepG.apply, hev, Sem.run_bind, hres', hinv, Result.andThen, Frame.finish])

theorem range_sound (hcall : CallSound P G call) (hGP : P.globals.size ≤ G) (hP : w0.P = P) {n : Nat} {g : Operand} {g' : Opd} {ps : Array Tmp} {asg body : Code} (hg : opd P g = some g') (hps : ∀ t ∈ ps.toList, t < n) {fr : Fr} {gf : FuncId} {first cap : List V} (hev : g'.eval fr.tmps = .func gf first cap)
    {outs : List (Ex × Fr × St)} (h : allO (call (.fn gf) (first ++ [.yield (σ.next + 1)] ++ cap) ((σ.new .dfr).new (.loop .ready none fr.tmps ps.toList (comp P true n asg) (comp P true n body)))) (fun r => endLoopA (σ.next + 1) ⟨fr.tmps, .mark σ.next :: fr.defers⟩ r.2) = some outs)
    (hR : Rel G B w0 φ σ w) (hF : FR P n φ fr a) {b : Frame} {k : List Item} {cs : List Frame} (hb : OkB false b cs) : Comes1 P G B w0 n φ outs (lone (b.atR a (.code (.rangeFunc g ps asg body) :: k)) cs w) b k cs := by
  have hbr := hb.plain rfl
  have hG : GR P φ := fun g hg => (hR.glob g (by omega)).2
  have hv := opd_rel (tm := fr.tmps) (a := a) hG hg (hF.tr _)
  rw [hev] at hv
  obtain ⟨F, C, hgv, hrF, hrC⟩ := hv
  obtain ⟨ol, hol, hall⟩ := allO_spec h
  -- the record
  have hn0 := hR.next_none
  have hnew1 := hR.new .dfr (.deferred (some [])) 0 rfl (.inr trivial) ⟨hR.B_le, heap_alloc_new w _⟩
  obtain ⟨hR1, hle1⟩ := hnew1
  generalize hφ1 : φ.upd σ.next (w.heap.size, 0) = φ1 at hR1 hle1
  obtain ⟨rec, hrec⟩ : ∃ rec : Loop, rec = { state := .ready, pending := none, fn := b.fn, tmps := a.tmps, params := ps, assign := asg, body := body, defers := w.heap.size } := ⟨_, rfl⟩
  have hn1 := hR1.next_none
  have hLR : LoopR w0.P (φ1.upd (σ.new .dfr).next ((w.alloc (.deferred (some []))).heap.size, 0)) .ready none fr.tmps ps.toList (comp P true n asg) (comp P true n body) rec := by
    rw [hrec, hP]
    exact ⟨rfl, rfl, fun t => VR.mono (φ1.le_upd _ hn1) _ _ (VR.mono hle1 _ _ (hF.ts t)), rfl, n, hF.size, hps, rfl, rfl⟩
  have hnew2 := hR1.new (.loop .ready none fr.tmps ps.toList (comp P true n asg) (comp P true n body)) (.loop rec) 0 rfl (.inr trivial) ⟨hR1.B_le, rec, heap_alloc_new _ _, hLR⟩
  obtain ⟨hR2, hle2⟩ := hnew2
  generalize hφ2 : φ1.upd (σ.new .dfr).next ((w.alloc (.deferred (some []))).heap.size, 0) = φ2 at hR2 hle2 hLR
  have hnx : (σ.new .dfr).next = σ.next + 1 := rfl
  have hsz : (w.alloc (.deferred (some []))).heap.size = w.heap.size + 1 := by simp
  have hl2 : φ2 (σ.next + 1) = some (w.heap.size + 1, 0) := by rw [← hφ2, hnx, hsz, Phi.upd_same]
  have hm2 : φ2 σ.next = some (w.heap.size, 0) := hle2 _ _ (by rw [← hφ1, Phi.upd_same])
  generalize hW1 : (w.alloc (.deferred (some []))).alloc (.loop rec) = W1 at hR2
  have he : (Instr.enterLoop b.fn a.tmps ps asg body b.roundOf).run P w = .ok (w.heap.size + 1, [{ target := .collected w.heap.size, args := #[] }]) W1 := by
    rw [hbr, ← hW1, hrec]; exact run_enterLoop_outer _ _ _ _ _
  have hres : (resolve a.eval (rangeCall g (w.heap.size + 1)) 0).run P W1 = .ok { target := .fn (.func gf) C, args := F ++ #[.func (.yield (w.heap.size + 1)) #[] #[]] } W1 := by
    simp only [resolve, hgv]
    simp [go_sem]
  have hargs : LR φ2 (first ++ [.yield (σ.next + 1)] ++ cap) (F ++ #[Value.func (.yield (w.heap.size + 1)) #[] #[]] ++ C).toList := by
    have hle := hle1.trans hle2
    simp only [Array.toList_append]
    exact LR.append (LR.append (LR.mono hle _ _ hrF) (LR.cons (a := .yield (σ.next + 1)) (b := Value.func (.yield (w.heap.size + 1)) #[] #[]) ⟨_, _, hl2, rfl⟩ LR.nil)) (LR.mono hle _ _ hrC)
  -- behind the call
  have back : ∀ (x : Value) (w2 : World) (M : Machine), CPosts G B w0 φ2 ol (.returned x) w2 →
      StepsR P b M (lone (b.atR { a with defers := { target := .collected w.heap.size, args := #[] } :: a.defers } (.endRangeFunc (w.heap.size + 1) :: k)) cs w2) → Comes1 P G B w0 n φ outs M b k cs := by
    rintro x w2 M ⟨q, hq, φ3, y, hy, hle3, hR3, hvq⟩ hsteps
    obtain ⟨os, hos, hsub⟩ := hall q hq
    have hl3 := hle3 _ _ hl2
    have hle03 := (hle1.trans hle2).trans hle3
    have hF3 : FR P n φ3 ⟨fr.tmps, .mark σ.next :: fr.defers⟩ { a with defers := { target := .collected w.heap.size, args := #[] } :: a.defers } :=
      ⟨fun t => VR.mono hle03 _ _ (hF.ts t), hF.size, w.heap.size, 0, a.defers, rfl, hle3 _ _ hm2, hF.ds.mono hle03⟩
    unfold endLoopA at hos
    split at hos
    · rename_i tm ps' as bd hob
      cases hos
      obtain ⟨hBb, r, hr, hLr⟩ := hR3.obj _ _ _ _ hob hl3
      have hrun := run_endLoop (P := P) hr (by rw [hLr.1]; simp [LSt.to])
      have hp : (r.pending.map Item.code).toList = [] := by rw [hLr.2.1]; rfl
      have hst := stepR_endRangeFunc (b := b) (a := { a with defers := { target := .collected w.heap.size, args := #[] } :: a.defers }) (k := k) (cs := cs) hrun
      rw [hp] at hst
      have hset := hR3.setObj (o' := .dead) (O := .loop { r with state := .exhausted }) hob rfl rfl hl3 hBb rfl (fun _ => trivial)
      exact ⟨_, hsub _ (List.mem_singleton.2 rfl), _, _, φ3, hle03, hset, hF3, StepsIn.trans hsteps (stepsR_one hst)⟩
    · rename_i ex tm ps' as bd hob
      cases hos
      obtain ⟨hBb, r, hr, hLr⟩ := hR3.obj _ _ _ _ hob hl3
      have hrun := run_endLoop (P := P) hr (by rw [hLr.1]; simp [LSt.to])
      have hp : r.pending.map Item.code = (jumpC (some ex)).map Item.code := by rw [hLr.2.1]
      have hst := stepR_endRangeFunc (b := b) (a := { a with defers := { target := .collected w.heap.size, args := #[] } :: a.defers }) (k := k) (cs := cs) hrun
      rw [hp] at hst
      have hset := hR3.setObj (o' := .dead) (O := .loop { r with state := .exhausted }) hob rfl rfl hl3 hBb rfl (fun _ => trivial)
      exact ⟨_, hsub _ (List.mem_singleton.2 rfl), _, _, φ3, hle03, hset, hF3, arr_jump hb (StepsIn.trans hsteps (stepsR_one hst))⟩
    · cases hos
  rcases hcall.plain gf _ _ _ hol B w0 φ2 W1 _ hP hR2 hargs with ⟨hen, hcs⟩ | ⟨x, w2, hva, hp⟩
  · have hinv : (invoke (.fn (.func gf) C) (F ++ #[.func (.yield (w.heap.size + 1)) #[] #[]])).run P W1 = .ok (.enter gf (F ++ #[.func (.yield (w.heap.size + 1)) #[] #[]] ++ C)) W1 := by simpa [invoke] using hen
    have hst := stepR_rangeFunc (P := P) (b := b) (a := a) (k := k) (cs := cs) (w := w) he hres hinv
    obtain ⟨e, w2, fr2, hp, hcm, hfn, hlv⟩ := hcs (b.atR { a with defers := [{ target := .collected w.heap.size, args := #[] }] ++ a.defers } (.inRangeFunc (w.heap.size + 1) :: k) :: cs)
    have hpp := hp
    obtain ⟨q, hq, φ3, y, rfl, _⟩ := hpp
    refine back y w2 _ hp ?_
    refine StepsIn.trans (stepsR_one hst) (StepsIn.trans (stepsR_of hcm) (stepsR_one ?_))
    rw [show b.atR { a with defers := { target := .collected w.heap.size, args := #[] } :: a.defers } (.endRangeFunc (w.heap.size + 1) :: k) = (b.atR { a with defers := [{ target := .collected w.heap.size, args := #[] }] ++ a.defers } (.inRangeFunc (w.heap.size + 1) :: k)).finish y from (finish_atR_inRangeFunc _ _).symm]
    exact step_leave_returned hlv
  · have hinv : (invoke (.fn (.func gf) C) (F ++ #[.func (.yield (w.heap.size + 1)) #[] #[]])).run P W1 = .ok (.value x) w2 := by simpa [invoke] using hva
    exact back x w2 _ hp (stepsR_one (stepR_rangeFunc_value (P := P) (b := b) (a := a) (k := k) (cs := cs) (w := w) he hres hinv))

theorem noDefer_spec {rd : Bool} {ops : Array Oper} {b : Frame} {cs : List Frame} (h : noDefer rd ops = true) (hb : OkB rd b cs) : b.roundOf = none ∨ ∀ o ∈ ops.toList, ∀ c, o.op ≠ .defer c := by
  cases rd with
  | false => exact .inl (hb.plain rfl)
  | true =>
    refine .inr fun o ho c hc => ?_
    have := List.all_eq_true.1 (by simpa [noDefer] using h : ops.toList.all (fun o => !isDefer o) = true) o ho
    simp [isDefer, hc] at this

theorem exec_sound (hcall : CallSound P G call) (hL : LoopsOk P G L) (hdraw : DrawSound P G (detC call)) (hGP : P.globals.size ≤ G) (hP : w0.P = P) {rd : Bool} {n : Nat} : ∀ (f : Nat) (c : Code) {fr : Fr} {σ : St} {outs : List (Ex × Fr × St)}, exec call L f (comp P rd n c) fr σ = some outs →
    ∀ {φ : Phi} {a : Act} {w : World}, Rel G B w0 φ σ w → FR P n φ fr a → ∀ {b : Frame} {k : List Item} {cs : List Frame}, OkB rd b cs → Comes1 P G B w0 n φ outs (lone (b.atR a (.code c :: k)) cs w) b k cs := by
  intro f
  induction f using Nat.strongRecOn with
  | _ f ih =>
    intro c fr σ outs h φ a w hR hF b k cs hb
    cases f with
    | zero => simp [exec] at h
    | succ f =>
      cases c with
      | skip =>
        simp [comp, exec] at h; subst h
        exact ⟨_, List.mem_singleton.2 rfl, a, w, φ, Phi.le.refl _, hR, hF, stepsR_one stepR_skip⟩
      | label l =>
        simp [comp, exec] at h; subst h
        exact ⟨_, List.mem_singleton.2 rfl, a, w, φ, Phi.le.refl _, hR, hF, stepsR_one stepR_label⟩
      | exit id =>
        simp [comp, exec] at h; subst h
        exact ⟨_, List.mem_singleton.2 rfl, a, w, φ, Phi.le.refl _, hR, hF, arr_jump (ex := .exit id) hb (StepsIn.refl _)⟩
      | goto l =>
        simp [comp, exec] at h; subst h
        exact ⟨_, List.mem_singleton.2 rfl, a, w, φ, Phi.le.refl _, hR, hF, arr_jump (ex := .goto l) hb (StepsIn.refl _)⟩
      | ret =>
        simp [comp, exec] at h; subst h
        exact ⟨_, List.mem_singleton.2 rfl, a, w, φ, Phi.le.refl _, hR, hF, arr_jump (ex := .ret) hb (StepsIn.refl _)⟩
      | refuse why => simp [comp, exec] at h
      | rangeFunc g ps asg body =>
        simp only [comp] at h
        cases rd with
        | true => simp [exec] at h
        | false =>
          simp only [Bool.false_eq_true, if_false] at h
          split at h
          · rename_i g' hg
            split at h
            · rename_i hps
              simp only [exec] at h
              split at h
              · rename_i gf first cap hev
                exact range_sound hcall hGP hP hg (fun t ht => by have := List.all_eq_true.1 hps t ht; simpa using this) hev h hR hF hb
              · cases h
            · simp [exec] at h
          · simp [exec] at h
      | region id ops d =>
        simp only [comp] at h
        split at h
        rotate_left
        · simp [exec] at h
        rename_i hnd
        have hnd := noDefer_spec hnd hb
        cases d with
        | true =>
          simp only [if_true] at h
          split at h
          · rename_i dl hdl
            simp only [exec] at h
            split at h
            · rename_i fr1 σ1 hrd
              simp at h; subst h
              have hw := hdraw n id ops dl hdl fr fr1 σ σ1 hrd b.roundOf B w0 φ a w hnd hP hR hF
              exact come_of_wp (outs := [(fr1, σ1)]) (Go.wpIn_mono hw (fun e a' w' ⟨h1, φ', h2⟩ => ⟨h1, _, List.mem_singleton.2 rfl, φ', h2⟩)) k cs
            · cases h
          · simp [exec] at h
        | false =>
          simp only [Bool.false_eq_true, if_false] at h
          split at h
          · rename_i o r hops
            split at h
            · rename_i hcond
              obtain ⟨h1, h2, h3, rfl⟩ := hcond
              split at h
              · rename_i al hal
                simp only [exec] at h
                split at h
                · rename_i ol hol
                  simp only [Option.some.injEq] at h; subst h
                  exact regionR_sound hcall hGP hP hops h1 h2 h3 hal hol hR hF hb
                · cases h
              · simp [exec] at h
            · split at h
              · rename_i al hal
                simp only [exec] at h
                split at h
                · rename_i ol hol
                  simp only [Option.some.injEq] at h; subst h
                  rw [← hops] at hal
                  exact come_of_wp (wpIn_region_list (runOps_sound hcall hGP hP (ops := ops) ops.toList al hal hnd hol hR hF (fun q hq φ' a' w' h1 h2 h3 => ⟨rfl, q, hq, φ', h1, h2, h3⟩))) k cs
                · cases h
              · simp [exec] at h
          · rename_i hops
            simp [exec, runOps] at h; subst h
            refine come_of_wp (outs := [(fr, σ)]) (wpIn_region_list ?_) k cs
            rw [hops]
            exact ⟨rfl, _, List.mem_singleton.2 rfl, φ, Phi.le.refl _, hR, hF⟩
      | seq x y =>
        simp only [comp, exec] at h
        obtain ⟨ol, hol, hall⟩ := allO_spec h
        obtain ⟨o, ho, hc1⟩ := ih f (by omega) x hol hR hF (b := b) (k := .code y :: k) hb
        obtain ⟨os, hos, hsub⟩ := hall o ho
        obtain ⟨ex1, fr1, σ1⟩ := o
        have hst := stepsR_one (b := b) (stepR_seq (P := P) (b := b) (a := a) (k := k) (cs := cs) (w := w) (x := x) (y := y))
        cases ex1 with
        | normal =>
          obtain ⟨a1, w1, φ1, hle, hR1, hF1, harr⟩ := hc1
          have hc2 := ih f (by omega) y hos hR1 hF1 (b := b) (k := k) hb
          exact Comes1.of_steps (StepsIn.trans hst harr) ((Comes1.mono hle hc2).sub hsub)
        | exit id => cases hos; exact ⟨_, hsub _ (List.mem_singleton.2 rfl), Come.of_steps hst (Come.pass rfl (by simp) hc1)⟩
        | goto l => cases hos; exact ⟨_, hsub _ (List.mem_singleton.2 rfl), Come.of_steps hst (Come.pass rfl (by simp) hc1)⟩
        | ret => cases hos; exact ⟨_, hsub _ (List.mem_singleton.2 rfl), Come.of_steps hst (Come.pass rfl (by simp) hc1)⟩
      | cond c x y =>
        simp only [comp] at h
        split at h
        · rename_i c' hc'
          simp only [exec] at h
          split at h
          · rename_i t ht
            have hG : GR P φ := fun g hg => (hR.glob g (by omega)).2
            have hv := opd_rel (tm := fr.tmps) (a := a) hG hc' (hF.tr _)
            rw [ht] at hv
            have hv : a.eval c = .bool t := hv
            refine Comes1.of_steps (stepsR_one (stepR_cond hv)) ?_
            cases t with
            | true => simp only [if_true] at h ⊢; exact ih f (by omega) x h hR hF hb
            | false => simp only [Bool.false_eq_true, if_false] at h ⊢; exact ih f (by omega) y h hR hF hb
          · cases h
        · simp [exec] at h
      | block id x =>
        simp only [comp, exec] at h
        obtain ⟨ol, hol, hall⟩ := allO_spec h
        obtain ⟨o, ho, a1, w1, φ1, hle, hR1, hF1, harr⟩ := ih f (by omega) x hol hR hF (b := b) (k := .inBlock id :: k) hb
        obtain ⟨os, hos, hsub⟩ := hall o ho
        obtain ⟨ex1, fr1, σ1⟩ := o
        have harr := ArrivesIn.of_steps (stepsR_one (b := b) (stepR_block (P := P) (b := b) (a := a) (k := k) (cs := cs) (w := w) (id := id) (c := x))) harr
        cases ex1 with
        | normal =>
          cases hos
          exact ⟨_, hsub _ (List.mem_singleton.2 rfl), a1, w1, φ1, hle, hR1, hF1, StepsIn.trans harr (stepsR_one stepR_inBlock)⟩
        | exit id' =>
          simp only at hos
          by_cases hid : id' = id
          · rw [if_pos hid] at hos
            cases hos
            exact ⟨_, hsub _ (List.mem_singleton.2 rfl), a1, w1, φ1, hle, hR1, hF1, harr.1 k (by simp [exitTo, hid])⟩
          · rw [if_neg hid] at hos
            cases hos
            exact ⟨_, hsub _ (List.mem_singleton.2 rfl), a1, w1, φ1, hle, hR1, hF1, arr_inBlock (ex := .exit id') (by simp) (by simpa using hid) harr⟩
        | goto l => cases hos; exact ⟨_, hsub _ (List.mem_singleton.2 rfl), a1, w1, φ1, hle, hR1, hF1, arr_inBlock (ex := .goto l) (by simp) (by simp) harr⟩
        | ret => cases hos; exact ⟨_, hsub _ (List.mem_singleton.2 rfl), a1, w1, φ1, hle, hR1, hF1, arr_inBlock (ex := .ret) (by simp) (by simp) harr⟩
      | scope x =>
        simp only [comp, exec] at h
        obtain ⟨ol, hol, hall⟩ := allO_spec h
        obtain ⟨o, ho, a1, w1, φ1, hle, hR1, hF1, harr⟩ := ih f (by omega) x hol hR hF (b := b) (k := .inScope x :: k) hb
        obtain ⟨os, hos, hsub⟩ := hall o ho
        obtain ⟨ex1, fr1, σ1⟩ := o
        have harr := ArrivesIn.of_steps (stepsR_one (b := b) (stepR_scope' (P := P) (b := b) (a := a) (k := k) (cs := cs) (w := w) (c := x))) harr
        cases ex1 with
        | normal =>
          cases hos
          exact ⟨_, hsub _ (List.mem_singleton.2 rfl), a1, w1, φ1, hle, hR1, hF1, StepsIn.trans harr (stepsR_one stepR_inScope')⟩
        | exit id => cases hos; exact ⟨_, hsub _ (List.mem_singleton.2 rfl), a1, w1, φ1, hle, hR1, hF1, arr_inScope (ex := .exit id) (by simp) (by simp) harr⟩
        | goto l =>
          exact (Comes1.mono hle (scope_sound (c := x) (fun c' {_} {_} {_} hx => ih f (by omega) c' hx) f l hos hR1 hF1 hb _ harr)).sub hsub
        | ret => cases hos; exact ⟨_, hsub _ (List.mem_singleton.2 rfl), a1, w1, φ1, hle, hR1, hF1, arr_inScope (ex := .ret) (by simp) (by simp) harr⟩
      | loop x =>
        have key : ∀ (m : Nat), m ≤ f + 1 → ∀ {fr : Fr} {σ : St} {outs : List (Ex × Fr × St)}, exec call L m (.loop (comp P rd n x)) fr σ = some outs → ∀ {φ : Phi} {a : Act} {w : World}, Rel G B w0 φ σ w → FR P n φ fr a →
            Comes1 P G B w0 n φ outs (lone (b.atR a (.code x :: .inLoop x :: k)) cs w) b k cs := by
          intro m
          induction m with
          | zero => intro _ fr σ outs h; simp [exec] at h
          | succ m ihm =>
            intro hm fr σ outs h φ a w hR hF
            simp only [exec] at h
            split at h
            · rename_i res hg
              obtain ⟨ex1, fr1, σ1⟩ := res
              cases h
              exact ⟨_, List.mem_singleton.2 rfl, loopGet_ok hL hg rd n x rfl B w0 φ a w hP hR hF b k cs hb⟩
            · obtain ⟨ol, hol, hall⟩ := allO_spec h
              obtain ⟨o, ho, hc1⟩ := ih m (by omega) x hol hR hF (b := b) (k := .inLoop x :: k) hb
              obtain ⟨os, hos, hsub⟩ := hall o ho
              obtain ⟨ex1, fr1, σ1⟩ := o
              cases ex1 with
              | normal =>
                obtain ⟨a1, w1, φ1, hle, hR1, hF1, harr⟩ := hc1
                exact (Comes1.of_steps (StepsIn.trans harr (stepsR_one stepR_inLoop)) (Comes1.mono hle (ihm (by omega) hos hR1 hF1))).sub hsub
              | exit id => cases hos; exact ⟨_, hsub _ (List.mem_singleton.2 rfl), Come.pass rfl (by simp) hc1⟩
              | goto l => cases hos; exact ⟨_, hsub _ (List.mem_singleton.2 rfl), Come.pass rfl (by simp) hc1⟩
              | ret => cases hos; exact ⟨_, hsub _ (List.mem_singleton.2 rfl), Come.pass rfl (by simp) hc1⟩
        simp only [comp] at h
        exact Comes1.of_steps (stepsR_one stepR_loop) (key (f + 1) (Nat.le_refl _) h hR hF)

theorem loop_sound (hcall : CallSound P G call) (hL : LoopsOk P G L) (hdraw : DrawSound P G (detC call)) (hGP : P.globals.size ≤ G) (hP : w0.P = P) {rd : Bool} {n : Nat} {x : Code} {b : Frame} {k : List Item} {cs : List Frame} (hb : OkB rd b cs) :
    ∀ (m : Nat) {fr : Fr} {σ : St} {outs : List (Ex × Fr × St)}, exec call L m (.loop (comp P rd n x)) fr σ = some outs → ∀ {φ : Phi} {a : Act} {w : World}, Rel G B w0 φ σ w → FR P n φ fr a →
            Comes1 P G B w0 n φ outs (lone (b.atR a (.code x :: .inLoop x :: k)) cs w) b k cs := by
  intro m
  induction m with
  | zero => intro fr σ outs h; simp [exec] at h
  | succ m ihm =>
    intro fr σ outs h φ a w hR hF
    simp only [exec] at h
    split at h
    · rename_i res hg
      obtain ⟨ex1, fr1, σ1⟩ := res
      cases h
      exact ⟨_, List.mem_singleton.2 rfl, loopGet_ok hL hg rd n x rfl B w0 φ a w hP hR hF b k cs hb⟩
    · obtain ⟨ol, hol, hall⟩ := allO_spec h
      obtain ⟨o, ho, hc1⟩ := exec_sound hcall hL hdraw hGP hP m x hol hR hF (b := b) (k := .inLoop x :: k) hb
      obtain ⟨os, hos, hsub⟩ := hall o ho
      obtain ⟨ex1, fr1, σ1⟩ := o
      cases ex1 with
      | normal =>
        obtain ⟨a1, w1, φ1, hle, hR1, hF1, harr⟩ := hc1
        exact (Comes1.of_steps (StepsIn.trans harr (stepsR_one stepR_inLoop)) (Comes1.mono hle (ihm hos hR1 hF1))).sub hsub
      | exit id => cases hos; exact ⟨_, hsub _ (List.mem_singleton.2 rfl), Come.pass rfl (by simp) hc1⟩
      | goto l => cases hos; exact ⟨_, hsub _ (List.mem_singleton.2 rfl), Come.pass rfl (by simp) hc1⟩
      | ret => cases hos; exact ⟨_, hsub _ (List.mem_singleton.2 rfl), Come.pass rfl (by simp) hc1⟩
end AM
