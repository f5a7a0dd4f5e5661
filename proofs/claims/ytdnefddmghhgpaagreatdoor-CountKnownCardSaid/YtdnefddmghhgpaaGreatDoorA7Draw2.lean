import Derived.Test.YtdnefddmghhgpaaGreatDoorA7Draw
import Derived.OrdersIn
namespace AM
open Go Go.RowKit
set_option linter.unusedVariables false
set_option linter.unusedSimpArgs false
variable {P : Program} {φ : Phi} {tm : T V} {a : Act} {w : World} {w0 : Base} {σ σ' : St} {G B : Nat} {call : CallT}

theorem cLoad_na {t : TypeId} {x : Operand} {z : List V} : cLoad P t x ≠ some (.alloc z) := by
  intro h; unfold cLoad at h; repeat' (split at h)
  all_goals cases h
theorem cSlice_na {t : TypeId} {x : Operand} {lo hi mx : Option Operand} {z : List V} : cSlice P t x lo hi mx ≠ some (.alloc z) := by
  intro h; unfold cSlice at h; repeat' (split at h)
  all_goals cases h
theorem cBin_na {op : BinOp} {t : TypeId} {x y : Operand} {z : List V} : cBin P op t x y ≠ some (.alloc z) := by
  intro h; unfold cBin at h; repeat' (split at h)
  all_goals cases h
theorem cBuiltin_na {b : Builtin} {ts : Array TypeId} {args : List Operand} {z : List V} : cBuiltin P b ts args ≠ some (.alloc z) := by
  intro h; unfold cBuiltin at h; repeat' (split at h)
  all_goals cases h
theorem compOp_alloc {ops : Array Oper} {o : Oper} {z : List V} (h : compOp P ops o = some (.alloc z)) : ∃ t, o.op = .alloc t ∧ zeroC P t = some z := by
  have h := (compOp_spec h).resolve_right (fun h => by have := compY_isX h; simp [isX] at this)
  unfold compOp0 at h
  split at h
  all_goals (first | (exact (cLoad_na h).elim) | (exact (cSlice_na h).elim) | (exact (cBin_na h).elim) | skip)
  case h_4 =>
    split at h
    · cases h; exact ⟨_, by assumption, by assumption⟩
    · cases h
  all_goals (repeat' (split at h))
  all_goals (first | (exact (cBuiltin_na h).elim) | cases h)

theorem draw_sound (hmix : P.follows .mixedOrders = true) (hGP : P.globals.size ≤ G) (hcall : CallSound1 P G call) : DrawSound P G call := by
  intro n id ops dl hdl fr fr' σ σ' hrun ro B w0 φ a w hnd hP hR hF
  unfold compDraw at hdl
  split at hdl
  · cases hdl
  rename_i l hl
  split at hdl
  rotate_left
  · cases hdl
  rename_i hok
  simp only [Bool.and_eq_true] at hok
  obtain ⟨hdok, hedges⟩ := hok
  simp only [Option.some.injEq] at hdl
  unfold runDraw at hrun
  split at hrun
  rotate_left
  · cases hrun
  rename_i fr2 tr es hrd
  split at hrun
  rotate_left
  · cases hrun
  rename_i hchk
  simp only [Option.some.injEq, Prod.mk.injEq] at hrun
  obtain ⟨rfl, rfl⟩ := hrun
  obtain ⟨hlen, hget⟩ := compOpers_get hl
  have hN : l.length = ops.size := by simpa using hlen
  obtain ⟨hnext, hhoist⟩ := hoist_spec (G := G) (B := B) dl σ
  have hRh := hhoist σ hR
  generalize hσh : hoist dl σ = σh at *
  obtain ⟨htrl, hesl, hsteps, efin, hefin, hfrfin, hlast⟩ := runD_spec dl hrd
  generalize hBf : befs [] ops.toList = Bf at *
  -- the tables
  have hdlget : ∀ (j : Nat) (ao : AOper), l[j]? = some ao → dl[j]? = some ⟨ao, loOf Bf l j, hiOf Bf l j⟩ := by
    intro j ao hj; rw [← hdl]; simp [hj]
  have hdllen : dl.length = ops.size := by rw [← hdl]; simp [hN]
  have heff : ∀ j, (dl[j]?).any (fun d => isEff d.o.op) = effAt l j := by
    intro j
    unfold effAt
    cases hj : l[j]? with
    | none =>
      have : dl[j]? = none := by rw [← hdl]; simp [hj]
      rw [this]; rfl
    | some ao => rw [hdlget j ao hj]; rfl
  have hnEff : ∀ j, nEff (dl.take j) = cntP (effAt l) (min j ops.size) := by
    intro j; rw [nEff_take, hdllen]; exact cnt_congr (fun i _ => heff i)
  generalize hE : (fr.defers, σh) :: es = E at *
  generalize htm : (fun (L : Nat → Bool) (j : Nat) => tmOf fr.tmps (dstOf dl) (valOf tr) L j) = TM
  have hTM : ∀ L j, tmOf fr.tmps (dstOf dl) (valOf tr) L j = TM L j := fun L j => by rw [← htm]
  let Hh : Nat → Nat := fun j => σ.next + nAlloc (dl.take j)
  let XL : (Nat → Bool) → Nat → Prop := fun L x => w0.X x ∨ ∃ j ao, L j = false ∧ l[j]? = some ao ∧ isAlloc ao.op = true ∧ x = Hh j
  have hopget : ∀ j, j < ops.size → ∃ o ao, ops[j]? = some o ∧ ops.toList[j]? = some o ∧ l[j]? = some ao ∧ compOper P n ops o = some ao := by
    intro j hj
    have ho : ops.toList[j]? = some ops[j] := by simp [hj]
    obtain ⟨ao, h1, h2⟩ := hget j _ ho
    exact ⟨ops[j], ao, by simp [hj], ho, h1, h2⟩
  have hdst : ∀ j ao, l[j]? = some ao → dstOf dl j = ao.dst := by
    intro j ao hj; unfold dstOf; rw [hdlget j ao hj]; rfl
  have hdltake : dl.take ops.size = dl := by rw [← hdllen]; exact List.take_length
  have hfull : nEff dl = cntP (effAt l) ops.size := by have := hnEff ops.size; rw [hdltake, Nat.min_self] at this; exact this
  have hfin : ∀ (L : Nat → Bool) (a : Act) (w : World), (∀ j, j < ops.size → L j = true) →
      (∃ φ1 e, φ.le φ1 ∧ E[cntP (fun j => effAt l j && L j) ops.size]? = some e ∧ Rel G B ⟨w0.P, w0.w, XL L⟩ φ1 e.2 w ∧ DR P φ1 e.1 a.defers ∧ n ≤ a.tmps.size ∧
        ∀ t, VR φ1 (((TM L ops.size).get t).getD .undef) (a.tmps.getD t Go.undef)) →
      ∃ φ', φ.le φ' ∧ Rel G B w0 φ' (lastSt σh es) w ∧ FR P n φ' fr2 a := by
    intro L a w hall ⟨φ1, e, hle, he, hR1, hD1, hsz1, hT1⟩
    have hm : cntP (fun j => effAt l j && L j) ops.size = nEff dl := by
      rw [hfull]; exact cnt_congr (fun j hj => by rw [hall j hj]; simp)
    rw [hm, hefin] at he
    simp at he; subst he
    refine ⟨φ1, hle, ?_, ?_⟩
    · rw [hlast]
      exact hR1.weaken rfl rfl (fun x hx => hR1.pend x (.inl hx))
    · rw [hfrfin]
      refine ⟨fun t => ?_, hsz1, hD1⟩
      have hag : (TM L ops.size).get t = (TM (fun _ => true) dl.length).get t := by
        rw [hdllen, ← hTM, ← hTM]
        exact tm_agree _ (fun j hj _ => hall j hj)
      have := hT1 t
      rw [hag] at this
      simp only
      rw [hTM]; exact this
  refine wpIn_region_any hmix ?_
  -- one step
  have step : ∀ (fuel : Nat) (listed : Array Bool) (a : Act) (w : World), listed.size = ops.size →
      (∀ j o, listed.getD j false = true → ops.toList[j]? = some o → ∀ e ∈ o.after.toList, Region.binds .any e = true → listed.getD e.on false = true) →
      (fuel + 1) + cntP (fun j => listed.getD j false) ops.size = ops.size →
      (∃ φ1 e, φ.le φ1 ∧ E[cntP (fun j => effAt l j && listed.getD j false) ops.size]? = some e ∧ Rel G B ⟨w0.P, w0.w, XL (fun j => listed.getD j false)⟩ φ1 e.2 w ∧ DR P φ1 e.1 a.defers ∧ n ≤ a.tmps.size ∧
        ∀ t, VR φ1 (((TM (fun j => listed.getD j false) ops.size).get t).getD .undef) (a.tmps.getD t Go.undef)) →
      ∀ i ∈ Region.ready .any ops listed,
      (∀ (listed : Array Bool) (a : Act) (w : World), listed.size = ops.size →
        (∀ j o, listed.getD j false = true → ops.toList[j]? = some o → ∀ e ∈ o.after.toList, Region.binds .any e = true → listed.getD e.on false = true) →
        fuel + cntP (fun j => listed.getD j false) ops.size = ops.size →
        (∃ φ1 e, φ.le φ1 ∧ E[cntP (fun j => effAt l j && listed.getD j false) ops.size]? = some e ∧ Rel G B ⟨w0.P, w0.w, XL (fun j => listed.getD j false)⟩ φ1 e.2 w ∧ DR P φ1 e.1 a.defers ∧ n ≤ a.tmps.size ∧
          ∀ t, VR φ1 (((TM (fun j => listed.getD j false) ops.size).get t).getD .undef) (a.tmps.getD t Go.undef)) →
        wpAnyIn (fw ro) 0 P .any ops (fun e a' w' => e = .normal ∧ ∃ φ', φ.le φ' ∧ Rel G B w0 φ' (lastSt σh es) w' ∧ FR P n φ' fr2 a') fuel listed a w) →
      wpOpIn (fw ro) 0 P ops (fun e a' w' => e = .normal ∧ ∃ φ', φ.le φ' ∧ Rel G B w0 φ' (lastSt σh es) w' ∧ FR P n φ' fr2 a') i
        (wpAnyIn (fw ro) 0 P .any ops (fun e a' w' => e = .normal ∧ ∃ φ', φ.le φ' ∧ Rel G B w0 φ' (lastSt σh es) w' ∧ FR P n φ' fr2 a') fuel (listed.setIfInBounds i true)) a w := by
    intro fuel listed a w hsz hcl hcnt hinv i hi ih
    obtain ⟨h0, o, ho, hedge⟩ := mem_ready.1 hi
    have hilt : i < ops.size := (Array.getElem?_eq_some_iff.1 ho).1
    obtain ⟨o', ao, ho1, ho2, hao, hcomp⟩ := hopget i hilt
    have : o' = o := by rw [ho] at ho1; cases ho1; rfl
    subst this
    obtain ⟨hcop, hcdst, hcok⟩ := compOper_spec hcomp
    have hmemo := List.mem_of_getElem? ho2
    obtain ⟨φ1, e, hle1, he, hR1, hD1, hsz1, hT1⟩ := hinv
    generalize hL : (fun j => listed.getD j false) = L at *
    have hgl : ∀ j, listed.getD j false = L j := fun j => congrFun hL j
    simp only [hgl] at he
    have hLi : L i = false := by rw [← hL]; simp [Array.getD, hsz, hilt] at h0 ⊢; exact h0
    have hL' : (fun j => (listed.setIfInBounds i true).getD j false) = fun j => if j = i then true else L j := by
      funext j
      by_cases c : j = i
      · subst c; simp [Array.getD, hsz, hilt]
      · rw [if_neg c, ← hL]; simp only; rw [getD_set_ne false (Ne.symm c)]
    have hcl2 : ∀ j o, L j = true → ops.toList[j]? = some o → ∀ e ∈ o.after.toList, Region.binds .any e = true → L e.on = true := by
      rw [← hL]; exact hcl
    have hedge2 : ∀ e ∈ o'.after.toList, Region.binds .any e = true → L e.on = true := by
      rw [← hL]; intro e he hb; exact hedge e (by simpa using he) hb
    -- who stands before i has run; who stands behind it has not
    have hbefore : ∀ j, (Bf.getD i 0).testBit j = true → L j = true := by
      intro j hj; rw [← hBf] at hj; exact bit_closed hcl2 i j o' ho2 hedge2 hj
    have hbehind : ∀ j, j < ops.size → (Bf.getD j 0).testBit i = true → L j = false := by
      intro j hj hb
      cases hc : L j with
      | false => rfl
      | true =>
        obtain ⟨oj, _, _, hoj, _, _⟩ := hopget j hj
        rw [← hBf] at hb
        have := bit_closed hcl2 j i oj hoj (fun e he hb' => hcl2 j oj hc hoj e he hb') hb
        rw [hLi] at this; cases this
    obtain ⟨hnot, hguard, hord⟩ := drawOk_spec hdok hao
    have hdi : dstOf dl i = ao.dst := hdst i ao hao
    -- what i names is as in the text
    have hnames : ∀ t ∈ ao.names, (TM L ops.size).get t = (TM (fun _ => true) i).get t := by
      intro t ht
      have h1 : (TM L ops.size).get t = (TM L i).get t := by
        rw [← hTM, ← hTM]
        refine tm_tail ops.size (by omega) (fun j hj1 hj2 hd => ?_)
        by_cases c : j = i
        · subst c; exact hLi
        · obtain ⟨oj, aoj, _, _, haoj, _⟩ := hopget j hj2
          rw [hdst j aoj haoj] at hd
          have := (hord j aoj haoj).2 c t hd ht
          rw [Nat.max_eq_left (by omega), Nat.min_eq_right (by omega)] at this
          exact hbehind j hj2 this
      have h2 : (TM L i).get t = (TM (fun _ => true) i).get t := by
        rw [← hTM, ← hTM]
        refine tm_agree i (fun j hj hd => ?_)
        obtain ⟨oj, aoj, _, _, haoj, _⟩ := hopget j (by omega)
        rw [hdst j aoj haoj] at hd
        have := (hord j aoj haoj).2 (by omega) t hd ht
        rw [Nat.max_eq_right (by omega), Nat.min_eq_left (by omega)] at this
        exact hbefore j this
      exact h1.trans h2
    have hTi : ∀ t ∈ ao.names, VR φ1 (((TM (fun _ => true) i).get t).getD .undef) (a.tmps.getD t Go.undef) := by
      intro t ht; rw [← hnames t ht]; exact hT1 t
    have hTop : TR φ1 (TM (fun _ => true) i) a ao.op.tmps := fun t ht => hTi t (by simp [AOper.names, ht])
    have hwant := wanted_rel (tm := TM (fun _ => true) i) (a := a) hcomp (fun t ht => hTi t (by simp only [AOper.names, List.mem_append]; exact .inr ht))
    -- the step of the text
    obtain ⟨e1, e2, htri, he1, he2, hstep⟩ := hsteps i _ (hdlget i ao hao)
    rw [hTM] at htri hstep
    have hmi : nEff (dl.take i) = cntP (effAt l) i := by rw [hnEff, Nat.min_eq_left (by omega)]
    have hmi1 : nEff (dl.take (i + 1)) = cntP (effAt l) i + (if effAt l i then 1 else 0) := by
      rw [hnEff, Nat.min_eq_left (by omega)]; rfl
    have heffi : effAt l i = isEff ao.op := by unfold effAt; rw [hao]
    -- behind the step
    have hsz' : (listed.setIfInBounds i true).size = ops.size := by simpa using hsz
    have hcl' : ∀ j o, (listed.setIfInBounds i true).getD j false = true → ops.toList[j]? = some o → ∀ e ∈ o.after.toList, Region.binds .any e = true → (listed.setIfInBounds i true).getD e.on false = true := by
      intro j oj hj hoj e he hb
      refine getD_set_true ?_
      by_cases c : j = i
      · subst c; rw [ho2] at hoj; cases hoj
        have := hedge2 e he hb; rw [← hL] at this; exact this
      · rw [getD_set_ne false (Ne.symm c)] at hj
        exact hcl j oj hj hoj e he hb
    have hcnt' : fuel + cntP (fun j => (listed.setIfInBounds i true).getD j false) ops.size = ops.size := by
      rw [hL']
      have := cnt_set (p := L) (q := fun j => if j = i then true else L j) hLi (by simp) (k := ops.size) (fun j _ hne => by simp [hne])
      rw [this, if_pos hilt]; omega
    have hcE : cntP (fun j => effAt l j && (fun j => if j = i then true else L j) j) ops.size = cntP (fun j => effAt l j && L j) ops.size + (if effAt l i then 1 else 0) := by
      cases hc : effAt l i with
      | true =>
        have := cnt_set (p := fun j => effAt l j && L j) (q := fun j => effAt l j && (fun j => if j = i then true else L j) j) (i := i) (by simp [hLi]) (by simp [hc]) (k := ops.size) (fun j _ hne => by simp [hne])
        rw [this, if_pos hilt]; rfl
      | false =>
        have := cnt_same (p := fun j => effAt l j && L j) (q := fun j => effAt l j && (fun j => if j = i then true else L j) j) (i := i) (k := ops.size) (by simp [hc]) (fun j _ hne => by simp [hne])
        rw [this]; rfl
    have hTM' : ∀ t, (TM (fun j => if j = i then true else L j) ops.size).get t = (if ao.dst = some t then some (valOf tr i) else (TM L ops.size).get t) := by
      intro t
      by_cases c : ao.dst = some t
      · rw [if_pos c]
        have htn : t ∈ ao.names := by simp [AOper.names, c]
        have h1 : (TM (fun j => if j = i then true else L j) ops.size).get t = (TM (fun j => if j = i then true else L j) (i + 1)).get t := by
          rw [← hTM, ← hTM]
          refine tm_tail ops.size (by omega) (fun j hj1 hj2 hd => ?_)
          have cj : j ≠ i := by omega
          obtain ⟨oj, aoj, _, _, haoj, _⟩ := hopget j hj2
          rw [hdst j aoj haoj] at hd
          have := (hord j aoj haoj).2 cj t hd htn
          rw [Nat.max_eq_left (by omega), Nat.min_eq_right (by omega)] at this
          simp only [cj, if_false]
          exact hbehind j hj2 this
        rw [h1, ← hTM, tmOf]
        simp only [if_true]
        rw [putD_get, hdi, if_pos c]
      · rw [if_neg c, ← hTM, ← hTM]
        refine tm_agree ops.size (fun j hj hd => ?_)
        by_cases cj : j = i
        · subst cj; rw [hdi] at hd; exact (c hd).elim
        · simp [cj]
    -- what is to be shown of the world behind the step
    have close : ∀ (φ2 : Phi) (x : Value) (w2 : World) (dfs : List Deferred) (ee : Dfs × St), φ1.le φ2 → E[cntP (fun j => effAt l j && L j) ops.size + (if effAt l i then 1 else 0)]? = some ee →
        Rel G B ⟨w0.P, w0.w, XL (fun j => if j = i then true else L j)⟩ φ2 ee.2 w2 → VR φ2 (valOf tr i) x → DR P φ2 ee.1 dfs →
        wpAnyIn (fw ro) 0 P .any ops (fun e a' w' => e = .normal ∧ ∃ φ', φ.le φ' ∧ Rel G B w0 φ' (lastSt σh es) w' ∧ FR P n φ' fr2 a') fuel (listed.setIfInBounds i true) (({ a with defers := dfs } : Act).put o'.dst x) w2 := by
      intro φ2 x w2 dfs ee hle2 hee hR2 hvx hdd
      refine ih _ _ w2 hsz' hcl' hcnt' ?_
      have hgd : ∀ j, (listed.setIfInBounds i true).getD j false = (if j = i then true else L j) := fun j => congrFun hL' j
      simp only [hgd]
      refine ⟨φ2, ee, hle1.trans hle2, by rw [hcE]; exact hee, hR2, ?_, ?_, fun t => ?_⟩
      · cases o'.dst <;> exact hdd
      · cases hod : o'.dst <;> simp [Act.put, hsz1]
      · rw [hTM' t, hcdst]
        cases hod : o'.dst with
        | none => simp only [Act.put]; simpa using VR.mono hle2 _ _ (hT1 t)
        | some d =>
          have hdlt : d < a.tmps.size := Nat.lt_of_lt_of_le (hcok d hod) hsz1
          simp only [Act.put]
          by_cases c : d = t
          · subst c
            have : (a.tmps.setIfInBounds d x).getD d Go.undef = x := by simp [Array.getD, hdlt]
            rw [this]; simpa using hvx
          · have : (a.tmps.setIfInBounds d x).getD t Go.undef = a.tmps.getD t Go.undef := by
              rw [Array.getD_eq_getD_getElem?, Array.getD_eq_getD_getElem?, Array.getElem?_setIfInBounds_ne c]
            rw [this]
            have hne : ¬ (some d = some t) := by simpa using c
            rw [if_neg hne]; exact VR.mono hle2 _ _ (hT1 t)
    have hXL : ∀ x, isAlloc ao.op = false → XL (fun j => if j = i then true else L j) x → XL L x := by
      rintro x hna (hx | ⟨j, aoj, hj, haoj, ha, rfl⟩)
      · exact .inl hx
      · refine .inr ⟨j, aoj, ?_, haoj, ha, rfl⟩
        by_cases c : j = i
        · subst c; simp at hj
        · simpa [c] using hj
    -- the epochs
    have hlo : loOf Bf l i ≤ cntP (fun j => effAt l j && L j) ops.size := by
      unfold loOf; rw [hN]
      refine cnt_mono (fun j hj h => ?_)
      simp only [Bool.and_eq_true] at h ⊢
      exact ⟨h.1, hbefore j h.2⟩
    have hhi : cntP (fun j => effAt l j && L j) ops.size ≤ hiOf Bf l i := by
      unfold hiOf; rw [hN]
      refine cnt_mono (fun j hj h => ?_)
      simp only [Bool.and_eq_true, Bool.not_eq_true'] at h ⊢
      refine ⟨h.1, ?_⟩
      cases hb : (Bf.getD j 0).testBit i with
      | false => rfl
      | true => have := hbehind j hj hb; rw [h.2] at this; cases this
    have heffEq : isEff ao.op = true → cntP (fun j => effAt l j && L j) ops.size = cntP (effAt l) i := by
      intro hE
      refine cnt_prefix (by omega) (fun j hj => ?_)
      obtain ⟨oj, aoj, _, _, haoj, _⟩ := hopget j hj
      have hej : effAt l j = isEff aoj.op := by unfold effAt; rw [haoj]
      cases hc : effAt l j with
      | false => simp
      | true =>
        rw [hej] at hc
        simp only [Bool.true_and]
        by_cases c : j < i
        · have := (hord j aoj haoj).1 hE hc c
          rw [hbefore j this]; simp [c]
        · by_cases c' : j = i
          · subst c'; rw [hLi]; simp
          · obtain ⟨_, _, hord'⟩ := drawOk_spec hdok haoj
            have := (hord' i ao hao).1 hc hE (by omega)
            rw [hbehind j hj this]; simp [c]
    unfold wpOpIn
    rw [ho]
    simp only
    rw [hwant]
    unfold StepOk at hstep
    simp only at hstep
    by_cases hw : wantedA ao.guard (TM (fun _ => true) i) = true
    · rw [if_pos hw] at hstep ⊢
      by_cases ha : isAlloc ao.op = true
      · rw [if_pos ha] at hstep
        obtain ⟨hv, hee⟩ := hstep
        have hE : isEff ao.op = false := by simp [isEff, ha]
        cases hop : ao.op with
        | alloc z =>
          obtain ⟨_, c2⟩ := checkD_spec dl σ.next tr hchk i _ _ _ (hdlget i ao hao) htri
          have hobj := checkH_spec _ 0 (c2 z hop) _ e he (by simpa using hhi)
          have hφ : φ1 (Hh i) = none := (hR1.pend (Hh i) (.inr ⟨i, ao, hLi, hao, ha, rfl⟩)).1
          rw [hop] at hcop
          obtain ⟨t, hot, hz⟩ : ∃ t, o'.op = .alloc t ∧ zeroC P t = some z := compOp_alloc hcop
          obtain ⟨X, hX, hr, hs, hXs⟩ := zeroC_spec hz
          have hrev := hR1.reveal (X' := XL (fun j => if j = i then true else L j)) (zs := X.cells.toList) (C := X.cells) (E := t) hobj hφ (hr φ1) hXs (fun k hk => by rw [Nat.mod_eq_of_lt (by simp; omega)]; simp) (by
            rintro x (hx | ⟨j, aoj, hj, haoj, haj, rfl⟩)
            · refine ⟨.inl hx, ?_⟩
              have := (hR.pend x hx).2
              omega
            · have cj : j ≠ i := by rintro rfl; simp at hj
              refine ⟨.inr ⟨j, aoj, by simpa [cj] using hj, haoj, haj, rfl⟩, ?_⟩
              simp only [Hh]
              rcases Nat.lt_or_gt_of_ne cj with c | c
              · have := nAlloc_lt (hdlget j aoj haoj) haj c; omega
              · have := nAlloc_lt (hdlget i ao hao) ha c; omega)
          refine Oper.wpI_value (hnd.imp (fun h => h) (fun h => h _ hmemo)) (x := .pointer (some ⟨w.heap.size, 0, none⟩)) (w' := w.alloc (.cells X.cells t)) ?_ ?_
          · simp [execOp, hot, Instr.alloc, hX, newVar, newRow]
          · refine close _ _ _ a.defers e hrev.2 (by rw [heffi, hE]; simpa using he) hrev.1 ?_ (DR.mono hrev.2 hD1)
            rw [hv]
            exact ⟨w.heap.size, z.length, Phi.upd_same _ _ _, rfl⟩
        | _ => rw [hop] at ha; cases ha
      · rw [if_neg ha] at hstep
        have ha' : isAlloc ao.op = false := by simpa using ha
        -- the operation, at the epoch that stands
        have hev : ∃ ee : Dfs × St, evalOp call ao.op (TM (fun _ => true) i) e.1 e.2 = some (valOf tr i, ee.1, ee.2) ∧ E[cntP (fun j => effAt l j && L j) ops.size + (if effAt l i then 1 else 0)]? = some ee := by
          cases hE : isEff ao.op with
          | true =>
            rw [hmi] at he1
            have hm := heffEq hE
            rw [hm] at he
            rw [he] at he1; cases he1
            rw [hmi1] at he2
            exact ⟨e2, hstep, by rw [hm]; exact he2⟩
          | false =>
            rw [heffi, hE]
            refine ⟨e, ?_, by simpa using he⟩
            obtain ⟨q1, q2⟩ := evalOp_noeff hstep hE ha'
            unfold evalOp at hstep ⊢
            by_cases hp : isPure ao.op = true
            · rw [if_pos hp] at hstep ⊢
              split at hstep
              · rename_i v hv
                simp only [Option.some.injEq, Prod.mk.injEq] at hstep ⊢
                simp [hstep.1]
              · cases hstep
            · rw [if_neg hp] at hstep ⊢
              have hrd : isRead ao.op = true := by
                have hp' : isPure ao.op = false := by simpa using hp
                simpa [isEff, hp', ha'] using hE
              rw [if_pos hrd]
              obtain ⟨c1, _⟩ := checkD_spec dl σ.next tr hchk i _ _ _ (hdlget i ao hao) htri
              have := checkR_spec _ 0 (c1 hrd hw) _ e he (by simpa using hlo) (by simpa using hhi)
              rw [this]
        obtain ⟨ee, hev, hee⟩ := hev
        refine evalOp_sound (w0 := ⟨w0.P, w0.w, XL L⟩) hcall hcop hev hGP hTop hD1 hP (hnd.imp (fun h => h) (fun h => h _ hmemo)) hR1 ?_
        intro φ2 x w2 dfs hle2 hR2 hvx hdd
        refine close φ2 x w2 dfs ee hle2 hee (hR2.weaken rfl rfl (fun y hy => hR2.pend y (hXL y ha' hy))) hvx hdd
    · rw [if_neg hw] at hstep ⊢
      obtain ⟨ha, hv, hee⟩ := hstep
      have hex : ∃ ee : Dfs × St, e = ee ∧ E[cntP (fun j => effAt l j && L j) ops.size + (if effAt l i then 1 else 0)]? = some ee := by
        cases hE : isEff ao.op with
        | true =>
          rw [hmi] at he1
          have hm := heffEq hE
          rw [hm] at he
          rw [he] at he1; cases he1
          rw [hmi1, hee] at he2
          exact ⟨e, rfl, by rw [hm]; exact he2⟩
        | false => rw [heffi, hE]; exact ⟨e, rfl, by simpa using he⟩
      obtain ⟨_, rfl, hex⟩ := hex
      have hvx : VR φ1 (valOf tr i) Go.undef := by rw [hv]; exact VR.undef
      exact ⟨fun _ _ => trivial, close φ1 Go.undef w a.defers e (Phi.le.refl _) hex (hR1.weaken rfl rfl (fun y hy => hR1.pend y (hXL y ha hy))) hvx hD1⟩
  -- the claim for every set of those that have run
  have main : ∀ (fuel : Nat) (listed : Array Bool) (a : Act) (w : World), listed.size = ops.size →
      (∀ j o, listed.getD j false = true → ops.toList[j]? = some o → ∀ e ∈ o.after.toList, Region.binds .any e = true → listed.getD e.on false = true) →
      fuel + cntP (fun j => listed.getD j false) ops.size = ops.size →
      (∃ φ1 e, φ.le φ1 ∧ E[cntP (fun j => effAt l j && listed.getD j false) ops.size]? = some e ∧ Rel G B ⟨w0.P, w0.w, XL (fun j => listed.getD j false)⟩ φ1 e.2 w ∧ DR P φ1 e.1 a.defers ∧ n ≤ a.tmps.size ∧
        ∀ t, VR φ1 (((TM (fun j => listed.getD j false) ops.size).get t).getD .undef) (a.tmps.getD t Go.undef)) →
      wpAnyIn (fw ro) 0 P .any ops (fun e a' w' => e = .normal ∧ ∃ φ', φ.le φ' ∧ Rel G B w0 φ' (lastSt σh es) w' ∧ FR P n φ' fr2 a') fuel listed a w := by
    intro fuel
    induction fuel with
    | zero =>
      intro listed a w hsz hcl hcnt hinv
      have hall : ∀ j, j < ops.size → listed.getD j false = true := cnt_full (by omega)
      refine ⟨?_, ?_⟩
      · rw [List.eq_nil_iff_forall_not_mem]
        intro j hj
        obtain ⟨h0, o, ho, _⟩ := mem_ready.1 hj
        have hjlt : j < ops.size := (Array.getElem?_eq_some_iff.1 ho).1
        have h1 := hall j hjlt
        simp [Array.getD, hsz, hjlt] at h0 h1
        rw [h0] at h1; cases h1
      · exact ⟨rfl, hfin _ a w hall hinv⟩
    | succ fuel ih =>
      intro listed a w hsz hcl hcnt hinv
      refine ⟨fun hnil => ?_, fun i hi => ?_⟩
      · have hall : ∀ j, j < ops.size → listed.getD j false = true := by
          intro j
          induction j using Nat.strongRecOn with
          | _ j ihj =>
            intro hj
            cases hc : listed.getD j false with
            | true => rfl
            | false =>
              obtain ⟨o, ao, ho, ho', _, _⟩ := hopget j hj
              have hmem : j ∈ Region.ready .any ops listed := by
                refine mem_ready.2 ⟨?_, o, ho, fun e he hb => ?_⟩
                · simp [Array.getD, hsz, hj] at hc ⊢; exact hc
                · have := edgesOk_spec ops.toList 0 hedges j o ho' e (by simpa using he) hb
                  exact ihj e.on (by omega) (by omega)
              rw [hnil] at hmem; cases hmem
        exact ⟨rfl, hfin _ a w hall hinv⟩
      · exact step fuel listed a w hsz hcl hcnt hinv i hi ih
  refine main ops.size _ a w.drew (by simp) ?_ ?_ ?_
  · intro j o hj
    simp [Array.getD] at hj
  · have : cntP (fun j => (Array.replicate ops.size false).getD j false) ops.size = 0 := by
      have : ∀ k, cntP (fun j => (Array.replicate ops.size false).getD j false) k = 0 := by
        intro k
        induction k with
        | zero => rfl
        | succ k ih => simp only [cntP, ih]; simp [Array.getD]
      exact this _
    omega
  · have hL0 : ∀ j, (Array.replicate ops.size false).getD j false = false := by intro j; simp [Array.getD]
    have hc0 : cntP (fun j => effAt l j && (Array.replicate ops.size false).getD j false) ops.size = 0 := by
      have : ∀ k, cntP (fun j => effAt l j && (Array.replicate ops.size false).getD j false) k = 0 := by
        intro k
        induction k with
        | zero => rfl
        | succ k ih => simp only [cntP]; rw [ih]; simp [hL0]
      exact this _
    refine ⟨φ, (fr.defers, σh), Phi.le.refl _, by rw [hc0, ← hE]; rfl, hRh.drew.weaken rfl rfl ?_, hF.ds, hF.size, ?_⟩
    · rintro x (hx | ⟨j, ao, _, hj, ha, rfl⟩)
      · obtain ⟨p, q⟩ := hR.pend x hx; exact ⟨p, by rw [hnext]; omega⟩
      · have hlt := nAlloc_lt (hdlget j ao hj) ha (i := dl.length) (by
          have : j < l.length := by
            rcases Nat.lt_or_ge j l.length with k | k
            · exact k
            · rw [List.getElem?_eq_none k] at hj; cases hj
          omega)
        rw [List.take_length] at hlt
        refine ⟨?_, by rw [hnext]; simp only [Hh]; omega⟩
        cases hc : φ (Hh j) with
        | none => rfl
        | some y => obtain ⟨b, m⟩ := y; have := (hR.dom _ _ _ hc).1; simp only [Hh] at this; omega
    · intro t
      have htt : (TM (fun j => (Array.replicate ops.size false).getD j false) ops.size).get t = fr.tmps.get t := by
        rw [← hTM]
        have := tm_tail (tm0 := fr.tmps) (dst := dstOf dl) (val := valOf tr) (L := fun j => (Array.replicate ops.size false).getD j false) (t := t) (i := 0) ops.size (by omega) (fun j _ _ _ => hL0 j)
        rw [this]; rfl
      rw [htt]; exact hF.ts t
end AM
