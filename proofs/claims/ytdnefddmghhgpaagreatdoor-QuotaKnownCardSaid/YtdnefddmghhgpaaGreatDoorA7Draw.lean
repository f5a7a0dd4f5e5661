import Derived.Test.YtdnefddmghhgpaaGreatDoorA7Run4
namespace AM
open Go Go.RowKit
set_option linter.unusedVariables false
set_option linter.unusedSimpArgs false
variable {P : Program} {φ : Phi} {tm : T V} {a : Act} {w : World} {w0 : Base} {σ σ' : St} {G B : Nat} {call : CallT}

/-! ### variables made first -/
def nAlloc : List DOper → Nat
  | [] => 0
  | d :: r => (if isAlloc d.o.op then 1 else 0) + nAlloc r

/-- An object that nothing speaks of yet. -/
theorem Rel.hide (h : Rel G B w0 φ σ w) (z : List V) (n : Nat) : Rel G B w0 φ (σ.new (.cells false 0 n z .nil)) w := by
  have hnew : ∀ x o', (σ.objs.set σ.next (.cells false 0 n z .nil)).get x = some o' → (x = σ.next ∧ o' = .cells false 0 n z .nil) ∨ (x ≠ σ.next ∧ σ.objs.get x = some o') := by
    intro x o' hx
    rw [T.get_set] at hx
    by_cases e : x = σ.next
    · rw [if_pos e] at hx; simp at hx; exact .inl ⟨e, hx.symm⟩
    · rw [if_neg e] at hx; exact .inr ⟨e, hx⟩
  have hφ := h.next_none
  refine ⟨h.below, h.B_le, fun x b m hx => ?_, fun g hg => ?_, ?_, ?_, ?_, ?_, ?_, ?_⟩
  · obtain ⟨p, q⟩ := h.dom x b m hx; exact ⟨by simp [St.new]; omega, q⟩
  · obtain ⟨p, q⟩ := h.glob g hg; exact ⟨by simp [St.new]; omega, q⟩
  · intro x o' b m hx hab
    rcases hnew x o' hx with ⟨rfl, _⟩ | ⟨_, hx'⟩
    · rw [hφ] at hab; cases hab
    · exact h.obj x o' b m hx' hab
  · intro x hx
    simp only [St.new] at hx ⊢
    rw [T.get_set, if_neg (by omega)]; exact h.fresh x (by omega)
  · intro x y o1 o2 b m m' hne k1 k2 hm hl h1 h2
    rcases hnew x o1 k1 with ⟨rfl, _⟩ | ⟨_, k1'⟩
    · rw [hφ] at h1; cases h1
    · rcases hnew y o2 k2 with ⟨rfl, _⟩ | ⟨_, k2'⟩
      · rw [hφ] at h2; cases h2
      · exact h.sep x y o1 o2 b m m' hne k1' k2' hm hl h1 h2
  · intro x o' hx hg
    rcases hnew x o' hx with ⟨_, rfl⟩ | ⟨_, hx'⟩
    · exact (hg rfl).elim
    · obtain ⟨p, q⟩ := h.grp x o' hx' hg; exact ⟨by simp [St.new]; omega, q⟩
  · intro g hg; simp only [St.new] at hg ⊢; exact h.gfresh g (by omega)
  · intro x hx; obtain ⟨p, q⟩ := h.pend x hx; exact ⟨p, by simp [St.new]; omega⟩

/-- Such an object is made after all. -/
theorem Rel.reveal (h : Rel G B w0 φ σ w) {hh n : Nat} {z : List V} {zs : List Value} {C : Array Value} {E : TypeId} (ho : σ.objs.get hh = some (.cells false 0 n z .nil)) (hφ : φ hh = none)
    (hz : LR φ z zs) (hC : C.size = n) (hc : ∀ i, i < n → C[i]? = zs[i % zs.length]?) {X' : Nat → Prop} (hX : ∀ x, X' x → w0.X x ∧ x ≠ hh) :
    Rel G B ⟨w0.P, w0.w, X'⟩ (φ.upd hh (w.heap.size, n)) σ (w.alloc (.cells C E)) ∧ φ.le (φ.upd hh (w.heap.size, n)) := by
  have hle := φ.le_upd (a := hh) (w.heap.size, n) hφ
  have hlt := h.lt ho
  refine ⟨⟨h.below.alloc h.B_le _, by simp; have := h.B_le; omega, ?_, ?_, ?_, h.fresh, ?_, h.grp, h.gfresh, ?_⟩, hle⟩
  · intro x b m hab
    by_cases e : x = hh
    · subst e; rw [Phi.upd_same] at hab; simp at hab; obtain ⟨rfl, rfl⟩ := hab; exact ⟨hlt, by simp⟩
    · rw [Phi.upd_ne φ _ e] at hab; obtain ⟨p, q⟩ := h.dom x b m hab; exact ⟨p, by simp; omega⟩
  · intro g hg; obtain ⟨p, m, hm⟩ := h.glob g hg; exact ⟨p, m, hle _ _ hm⟩
  · intro x o b m hx hab
    by_cases e : x = hh
    · subst e
      rw [ho] at hx; simp at hx; subst hx
      rw [Phi.upd_same] at hab; simp at hab; obtain ⟨rfl, rfl⟩ := hab
      refine ⟨C, E, (0, 0), heap_alloc_new w _, hC, fun _ => ⟨rfl, h.B_le⟩, Nat.le_refl _, ?_⟩
      intro i v hi
      unfold cellOf at hi
      split at hi
      · rename_i hlt
        simp only [T.get_nil] at hi
        obtain ⟨y, hy, hv⟩ := hz.get _ v hi
        exact ⟨y, by rw [hc i hlt, hz.length]; exact hy, VR.mono hle _ _ hv⟩
      · cases hi
    · rw [Phi.upd_ne φ _ e] at hab
      exact ((h.obj x o b m hx hab).mono hle).of_block (Below.heap_alloc w _ b (h.dom x b m hab).2)
  · intro x y o1 o2 b m m' hne k1 k2 hm hl h1 h2
    by_cases e : x = hh
    · subst e
      rw [Phi.upd_same] at h1; simp at h1; obtain ⟨rfl, rfl⟩ := h1
      rw [Phi.upd_ne φ _ (Ne.symm hne)] at h2
      have := (h.dom _ _ _ h2).2; omega
    · by_cases e' : y = hh
      · subst e'
        rw [Phi.upd_same] at h2; simp at h2; obtain ⟨rfl, rfl⟩ := h2
        rw [Phi.upd_ne φ _ e] at h1
        have := (h.dom _ _ _ h1).2; omega
      · rw [Phi.upd_ne φ _ e] at h1; rw [Phi.upd_ne φ _ e'] at h2
        exact h.sep x y o1 o2 b m m' hne k1 k2 hm hl h1 h2
  · intro x hx
    obtain ⟨p, q⟩ := hX x hx
    obtain ⟨r, s⟩ := h.pend x p
    exact ⟨by rw [Phi.upd_ne φ _ q]; exact r, s⟩

theorem Rel.weaken {w0' : Base} (h : Rel G B w0 φ σ w) (hw : w0'.w = w0.w) (hP : w0'.P = w0.P) (hX : ∀ x, w0'.X x → φ x = none ∧ x < σ.next) : Rel G B w0' φ σ w :=
  ⟨by rw [hw]; exact h.below, h.B_le, h.dom, h.glob, by rw [hP]; exact h.obj, h.fresh, h.sep, h.grp, h.gfresh, hX⟩

theorem hoist_spec : ∀ (dl : List DOper) (σ : St), (hoist dl σ).next = σ.next + nAlloc dl ∧
    (∀ (σ : St) {w0 : Base} {φ : Phi} {w : World}, Rel G B w0 φ σ w → Rel G B w0 φ (hoist dl σ) w)
  | [], σ => ⟨by simp [hoist, nAlloc], fun σ _ _ _ h => h⟩
  | d :: r, σ => by
    refine ⟨?_, ?_⟩
    · simp only [hoist, nAlloc]
      split
      · rename_i z hz
        rw [(hoist_spec r _).1]; simp [St.new, isAlloc, hz]; omega
      · rename_i hz
        rw [(hoist_spec r _).1]
        have : isAlloc d.o.op = false := by unfold isAlloc; split <;> simp_all
        simp [this]
    · intro σ w0 φ w h
      simp only [hoist]
      split
      · rename_i z hz
        exact (hoist_spec r σ).2 _ (h.hide z z.length)
      · exact (hoist_spec r σ).2 _ h

/-! ### the run in the order of the text, place by place -/
def nEff : List DOper → Nat
  | [] => 0
  | d :: r => (if isEff d.o.op then 1 else 0) + nEff r

/-- what the frame holds when those of L that stand before j have been done -/
noncomputable def tmOf (tm0 : T V) (dst : Nat → Option Nat) (val : Nat → V) (L : Nat → Bool) : Nat → T V
  | 0 => tm0
  | j + 1 => if L j then putD (tmOf tm0 dst val L j) (dst j) (val j) else tmOf tm0 dst val L j

theorem tmOf_shift (tm0 : T V) (dst : Nat → Option Nat) (val : Nat → V) : ∀ j, tmOf tm0 dst val (fun _ => true) (j + 1) = tmOf (putD tm0 (dst 0) (val 0)) (fun j => dst (j + 1)) (fun j => val (j + 1)) (fun _ => true) j
  | 0 => rfl
  | j + 1 => by
    rw [tmOf, tmOf_shift tm0 dst val j]
    rfl

def StepOk (call : CallT) (d : DOper) (h : Nat) (tm : T V) (v : V) (e1 e2 : Dfs × St) : Prop :=
  if wantedA d.o.guard tm = true then
    if isAlloc d.o.op = true then v = .ptr (some (h, 0)) ∧ e2 = e1
    else evalOp call d.o.op tm e1.1 e1.2 = some (v, e2.1, e2.2)
  else isAlloc d.o.op = false ∧ v = .undef ∧ e2 = e1

theorem evalOp_noeff {op : AOp} {ds ds' : Dfs} {v : V} (h : evalOp call op tm ds σ = some (v, ds', σ')) (he : isEff op = false) (ha : isAlloc op = false) : ds' = ds ∧ σ' = σ := by
  unfold evalOp at h
  split at h
  · split at h
    · simp only [Option.some.injEq, Prod.mk.injEq] at h; exact ⟨h.2.1.symm, h.2.2.symm⟩
    · cases h
  · rename_i h1
    split at h
    · split at h
      · simp only [Option.some.injEq, Prod.mk.injEq] at h; exact ⟨h.2.1.symm, h.2.2.symm⟩
      · cases h
    · rename_i h2
      simp [isEff, h1, h2, ha] at he

def dstOf (dl : List DOper) (j : Nat) : Option Nat := (dl[j]?).bind (·.o.dst)
def valOf (tr : List (T V × V)) (j : Nat) : V := (tr[j]?.map (·.2)).getD .undef

theorem runD_spec : ∀ (dl : List DOper) {h : Nat} {fr fr' : Fr} {σ : St} {tr : List (T V × V)} {es : List (Dfs × St)}, runD call dl h fr σ = some (fr', tr, es) →
    tr.length = dl.length ∧ es.length = nEff dl ∧
    (∀ j d, dl[j]? = some d → ∃ e1 e2, tr[j]? = some (tmOf fr.tmps (dstOf dl) (valOf tr) (fun _ => true) j, valOf tr j) ∧
      ((fr.defers, σ) :: es)[nEff (dl.take j)]? = some e1 ∧ ((fr.defers, σ) :: es)[nEff (dl.take (j + 1))]? = some e2 ∧
      StepOk call d (h + nAlloc (dl.take j)) (tmOf fr.tmps (dstOf dl) (valOf tr) (fun _ => true) j) (valOf tr j) e1 e2) ∧
    ∃ e, ((fr.defers, σ) :: es)[nEff dl]? = some e ∧ fr' = ⟨tmOf fr.tmps (dstOf dl) (valOf tr) (fun _ => true) dl.length, e.1⟩ ∧ lastSt σ es = e.2
  | [], h, fr, fr', σ, tr, es, hr => by
    simp [runD] at hr; obtain ⟨rfl, rfl, rfl⟩ := hr
    exact ⟨rfl, rfl, fun j d hd => by simp at hd, (fr.defers, σ), rfl, rfl, rfl⟩
  | d :: r, h, fr, fr', σ, tr, es, hr => by
    -- one step, then the rest
    have main : ∀ (h' : Nat) (v : V) (e1 : Dfs × St) (tr' : List (T V × V)) (es' : List (Dfs × St)), runD call r h' ⟨putD fr.tmps d.o.dst v, e1.1⟩ e1.2 = some (fr', tr', es') →
        h' = h + (if isAlloc d.o.op then 1 else 0) → tr = (fr.tmps, v) :: tr' → es = (if isEff d.o.op then e1 :: es' else es') → (isEff d.o.op = false → e1 = (fr.defers, σ)) →
        StepOk call d h fr.tmps v (fr.defers, σ) e1 →
        tr.length = (d :: r).length ∧ es.length = nEff (d :: r) ∧
        (∀ j d', (d :: r)[j]? = some d' → ∃ e1 e2, tr[j]? = some (tmOf fr.tmps (dstOf (d :: r)) (valOf tr) (fun _ => true) j, valOf tr j) ∧
          ((fr.defers, σ) :: es)[nEff ((d :: r).take j)]? = some e1 ∧ ((fr.defers, σ) :: es)[nEff ((d :: r).take (j + 1))]? = some e2 ∧
          StepOk call d' (h + nAlloc ((d :: r).take j)) (tmOf fr.tmps (dstOf (d :: r)) (valOf tr) (fun _ => true) j) (valOf tr j) e1 e2) ∧
        ∃ e, ((fr.defers, σ) :: es)[nEff (d :: r)]? = some e ∧ fr' = ⟨tmOf fr.tmps (dstOf (d :: r)) (valOf tr) (fun _ => true) (d :: r).length, e.1⟩ ∧ lastSt σ es = e.2 := by
      intro h' v e1 tr' es' hrest hh htr hes hsame hstep
      obtain ⟨i1, i2, i3, e, i4, i5, i6⟩ := runD_spec r hrest
      have hval : (fun j => valOf tr (j + 1)) = valOf tr' := by funext j; rw [htr]; simp [valOf]
      have hval0 : valOf tr 0 = v := by rw [htr]; rfl
      have hdst : (fun j => dstOf (d :: r) (j + 1)) = dstOf r := by funext j; simp [dstOf]
      have hdst0 : dstOf (d :: r) 0 = d.o.dst := rfl
      have hshift : ∀ j, tmOf fr.tmps (dstOf (d :: r)) (valOf tr) (fun _ => true) (j + 1) = tmOf (putD fr.tmps d.o.dst v) (dstOf r) (valOf tr') (fun _ => true) j := by
        intro j; rw [tmOf_shift, hval, hdst, hval0, hdst0]
      have hidx : ∀ m, ((fr.defers, σ) :: es)[(if isEff d.o.op then 1 else 0) + m]? = ((e1.1, e1.2) :: es')[m]? := by
        intro m
        rw [hes]
        cases he : isEff d.o.op with
        | true => simp only [if_true]; rw [Nat.add_comm]; rfl
        | false => simp only [Bool.false_eq_true, if_false, Nat.zero_add]; rw [hsame he]
      refine ⟨by rw [htr]; simp [i1], ?_, ?_, e, ?_, ?_, ?_⟩
      · rw [hes]; simp only [nEff]; split <;> simp [i2]; omega
      · intro j d' hd'
        cases j with
        | zero =>
          simp at hd'; subst hd'
          refine ⟨(fr.defers, σ), e1, ?_, rfl, ?_, ?_⟩
          · rw [htr]; simp [tmOf, valOf]
          · have := hidx 0
            simp only [Nat.add_zero, List.getElem?_cons_zero] at this
            simp only [List.take_succ_cons, List.take_zero, nEff, Nat.add_zero]
            exact this
          · simp only [List.take_zero, nAlloc, Nat.add_zero, tmOf, hval0]; exact hstep
        | succ j =>
          simp only [List.getElem?_cons_succ] at hd'
          obtain ⟨f1, f2, g1, g2, g3, g4⟩ := i3 j d' hd'
          have hv' : valOf tr (j + 1) = valOf tr' j := congrFun hval j
          refine ⟨f1, f2, ?_, ?_, ?_, ?_⟩
          · rw [hshift, hv', htr]; simpa using g1
          · simp only [List.take_succ_cons, nEff]; rw [hidx]; exact g2
          · simp only [List.take_succ_cons, nEff]; rw [hidx]; exact g3
          · rw [hshift, hv']
            simp only [List.take_succ_cons, nAlloc]
            rw [hh] at g4
            rw [← Nat.add_assoc]; exact g4
      · simp only [nEff]; rw [hidx]; exact i4
      · rw [i5]; simp only [List.length_cons]; rw [hshift]
      · rw [hes, ← i6]
        cases he : isEff d.o.op with
        | true => rfl
        | false => simp only [Bool.false_eq_true, if_false]; rw [hsame he]
    simp only [runD] at hr
    split at hr
    · rename_i hw
      split at hr
      · rename_i ha
        split at hr
        · rename_i f' tr' es' hrest
          simp at hr; obtain ⟨rfl, rfl, rfl⟩ := hr
          have he : isEff d.o.op = false := by simp [isEff, ha]
          exact main (h + 1) _ (fr.defers, σ) tr' es' hrest (by simp [ha]) rfl (by simp [he]) (fun _ => rfl) (by unfold StepOk; rw [if_pos hw, if_pos ha]; exact ⟨rfl, rfl⟩)
        · cases hr
      · rename_i ha
        split at hr
        · rename_i v ds σ1 hev
          split at hr
          · rename_i f' tr' es' hrest
            simp at hr; obtain ⟨rfl, rfl, rfl⟩ := hr
            refine main h v (ds, σ1) tr' es' hrest (by simp [ha]) rfl rfl (fun he => ?_) (by unfold StepOk; rw [if_pos hw, if_neg ha]; exact hev)
            obtain ⟨q1, q2⟩ := evalOp_noeff hev he (by simpa using ha)
            rw [q1, q2]
          · cases hr
        · cases hr
    · rename_i hw
      split at hr
      · cases hr
      · rename_i ha
        split at hr
        · rename_i f' tr' es' hrest
          simp at hr; obtain ⟨rfl, rfl, rfl⟩ := hr
          exact main h .undef (fr.defers, σ) tr' es' hrest (by simp [ha]) rfl rfl (fun _ => rfl) (by unfold StepOk; rw [if_neg hw]; exact ⟨by simpa using ha, rfl, rfl⟩)
        · cases hr

/-! ### counting -/
theorem cnt_congr {p q : Nat → Bool} : ∀ {k : Nat}, (∀ j, j < k → p j = q j) → cntP p k = cntP q k
  | 0, _ => rfl
  | k + 1, h => by simp only [cntP]; rw [cnt_congr (k := k) (fun j hj => h j (by omega)), h k (by omega)]
theorem cnt_mono {p q : Nat → Bool} : ∀ {k : Nat}, (∀ j, j < k → p j = true → q j = true) → cntP p k ≤ cntP q k
  | 0, _ => Nat.le_refl _
  | k + 1, h => by
    have := cnt_mono (p := p) (q := q) (k := k) (fun j hj => h j (by omega))
    have hk := h k (by omega)
    simp only [cntP]
    cases hp : p k with
    | false => simp; omega
    | true => rw [hk hp]; simp; omega
theorem cnt_le {p : Nat → Bool} : ∀ {k : Nat}, cntP p k ≤ k
  | 0 => Nat.le_refl _
  | k + 1 => by have := cnt_le (p := p) (k := k); simp only [cntP]; split <;> omega
theorem cnt_full {p : Nat → Bool} : ∀ {k : Nat}, cntP p k = k → ∀ j, j < k → p j = true
  | 0, _, j, hj => by omega
  | k + 1, h, j, hj => by
    have hle := cnt_le (p := p) (k := k)
    simp only [cntP] at h
    cases hp : p k with
    | false => rw [hp] at h; simp at h; omega
    | true =>
      rw [hp] at h; simp at h
      by_cases e : j = k
      · rw [e]; exact hp
      · exact cnt_full h j (by omega)
theorem cnt_set {p q : Nat → Bool} {i : Nat} (h0 : p i = false) (h1 : q i = true) : ∀ {k : Nat}, (∀ j, j < k → j ≠ i → q j = p j) → cntP q k = cntP p k + (if i < k then 1 else 0)
  | 0, _ => by simp [cntP]
  | k + 1, h => by
    have ih := cnt_set (p := p) (q := q) h0 h1 (k := k) (fun j hj => h j (by omega))
    simp only [cntP]
    by_cases e : k = i
    · subst e
      rw [ih, h0, h1]; simp
    · rw [ih, h k (by omega) e]
      have : (if i < k then 1 else 0 : Nat) = (if i < k + 1 then 1 else 0) := by split <;> split <;> omega
      omega
theorem cnt_same {p q : Nat → Bool} {i : Nat} {k : Nat} (h0 : q i = p i) (h : ∀ j, j < k → j ≠ i → q j = p j) : cntP q k = cntP p k :=
  cnt_congr (fun j hj => by by_cases e : j = i; rw [e, h0]; exact h j hj e)
theorem cnt_prefix {p q : Nat → Bool} {i : Nat} : ∀ {k : Nat}, i ≤ k → (∀ j, j < k → p j = (q j && decide (j < i))) → cntP p k = cntP q i
  | 0, h, _ => by have : i = 0 := by omega
                  subst this; rfl
  | k + 1, h, hp => by
    by_cases e : i = k + 1
    · subst e; exact cnt_congr (fun j hj => by rw [hp j hj]; simp [hj])
    · simp only [cntP]
      rw [hp k (by omega), cnt_prefix (p := p) (q := q) (i := i) (k := k) (by omega) (fun j hj => hp j (by omega))]
      have : decide (k < i) = false := by simp; omega
      simp [this]

theorem nEff_take (dl : List DOper) : ∀ j, nEff (dl.take j) = cntP (fun i => (dl[i]?).any (fun d => isEff d.o.op)) (min j dl.length) := by
  induction dl with
  | nil => intro j; simp [nEff, cntP]
  | cons d r ih =>
    intro j
    cases j with
    | zero => simp [nEff, cntP]
    | succ j =>
      have hs : ∀ k, cntP (fun i => ((d :: r)[i]?).any (fun d => isEff d.o.op)) (k + 1) = (if isEff d.o.op then 1 else 0) + cntP (fun i => (r[i]?).any (fun d => isEff d.o.op)) k := by
        intro k
        induction k with
        | zero => simp [cntP]
        | succ k ihk => rw [cntP, ihk, cntP]; simp; omega
      have hm : min (j + 1) (d :: r).length = min j r.length + 1 := by simp [Nat.add_min_add_right]
      rw [List.take_succ_cons, nEff, ih, hm, hs]

/-! ### what runs before what -/
theorem maskOf_bit (acc : List Nat) (i : Nat) : ∀ (es : List Edge), (maskOf acc es).testBit i = true ↔ ∃ e ∈ es, Region.binds .any e = true ∧ (i = e.on ∨ (acc.getD e.on 0).testBit i = true) := by
  intro es
  have gen : ∀ (es : List Edge) (s : Nat), (es.foldl (fun s e => if Region.binds .any e then s ||| 2 ^ e.on ||| acc.getD e.on 0 else s) s).testBit i = true ↔
      s.testBit i = true ∨ ∃ e ∈ es, Region.binds .any e = true ∧ (i = e.on ∨ (acc.getD e.on 0).testBit i = true) := by
    intro es
    induction es with
    | nil => intro s; simp
    | cons e r ih =>
      intro s
      simp only [List.foldl_cons, ih, List.mem_cons, exists_eq_or_imp]
      cases hb : Region.binds .any e with
      | false => simp
      | true =>
        simp only [if_true, Nat.testBit_or, Bool.or_eq_true, Nat.testBit_two_pow, decide_eq_true_eq, true_and]
        constructor
        · rintro (((h | h) | h) | h)
          · exact .inl h
          · exact .inr (.inl (.inl h.symm))
          · exact .inr (.inl (.inr h))
          · exact .inr (.inr h)
        · rintro (h | (h | h) | h)
          · exact .inl (.inl (.inl h))
          · exact .inl (.inl (.inr h.symm))
          · exact .inl (.inr h)
          · exact .inr h
  have := gen es 0
  simpa [maskOf] using this

theorem befs_spec : ∀ (l : List Oper) (acc : List Nat), (befs acc l).length = acc.length + l.length ∧ (∀ j, j < acc.length → (befs acc l)[j]? = acc[j]?) ∧
    ∀ j o, l[j]? = some o → (befs acc l)[acc.length + j]? = some (maskOf ((befs acc l).take (acc.length + j)) o.after.toList)
  | [], acc => ⟨by simp [befs], fun j hj => rfl, fun j o h => by simp at h⟩
  | x :: r, acc => by
    obtain ⟨h1, h2, h3⟩ := befs_spec r (acc ++ [maskOf acc x.after.toList])
    simp only [befs]
    refine ⟨by rw [h1]; simp; omega, fun j hj => by rw [h2 j (by simp; omega), List.getElem?_append_left hj], fun j o hj => ?_⟩
    cases j with
    | zero =>
      simp at hj; subst hj
      have htake : (befs (acc ++ [maskOf acc x.after.toList]) r).take (acc.length + 0) = acc := by
        apply List.ext_getElem?
        intro i
        rw [List.getElem?_take]
        by_cases c : i < acc.length
        · rw [if_pos (by omega), h2 i (by simp; omega), List.getElem?_append_left c]
        · rw [if_neg (by omega), List.getElem?_eq_none (by omega)]
      rw [htake, h2 _ (by simp)]
      simp
    | succ j =>
      have := h3 j o (by simpa using hj)
      simp only [List.length_append, List.length_cons, List.length_nil] at this
      rw [show acc.length + (j + 1) = acc.length + (0 + 1) + j by omega]; exact this

/-- whoever is marked as running before one that may run, has run -/
theorem bit_closed {ops : List Oper} {L : Nat → Bool} (hcl : ∀ j o, L j = true → ops[j]? = some o → ∀ e ∈ o.after.toList, Region.binds .any e = true → L e.on = true) :
    ∀ (j i : Nat) (o : Oper), ops[j]? = some o → (∀ e ∈ o.after.toList, Region.binds .any e = true → L e.on = true) → ((befs [] ops).getD j 0).testBit i = true → L i = true := by
  intro j
  induction j using Nat.strongRecOn with
  | _ j ih =>
    intro i o ho hr hbit
    obtain ⟨h1, _, h3⟩ := befs_spec ops []
    have hj := h3 j o ho
    simp only [List.length_nil, Nat.zero_add] at hj
    have hjlt : j < ops.length := by
      rcases Nat.lt_or_ge j ops.length with k | k
      · exact k
      · rw [List.getElem?_eq_none k] at ho; cases ho
    rw [List.getD_eq_getElem?_getD, hj, Option.getD_some, maskOf_bit] at hbit
    obtain ⟨e, he, hb, hcase⟩ := hbit
    have hLe := hr e he hb
    rcases hcase with rfl | hbit
    · exact hLe
    · by_cases c : e.on < j
      · rw [List.getD_eq_getElem?_getD, List.getElem?_take, if_pos c] at hbit
        obtain ⟨o', ho'⟩ : ∃ o', ops[e.on]? = some o' := ⟨ops[e.on], by simp⟩
        exact ih e.on c i o' ho' (hcl e.on o' hLe ho') (by rw [List.getD_eq_getElem?_getD]; exact hbit)
      · rw [List.getD_eq_getElem?_getD, List.getElem?_take, if_neg c] at hbit
        simp at hbit

theorem edgesOk_spec : ∀ (l : List Oper) (k : Nat), edgesOk k l = true → ∀ j o, l[j]? = some o → ∀ e ∈ o.after.toList, Region.binds .any e = true → e.on < k + j
  | [], k, h, j, o, hj => by simp at hj
  | x :: r, k, h, j, o, hj => by
    simp only [edgesOk, Bool.and_eq_true, List.all_eq_true, Bool.or_eq_true, Bool.not_eq_true', decide_eq_true_eq] at h
    intro e he hb
    cases j with
    | zero =>
      simp at hj; subst hj
      rcases h.1 e he with q | q
      · rw [q] at hb; cases hb
      · exact q
    | succ j => have := edgesOk_spec r (k + 1) h.2 j o (by simpa using hj) e he hb; omega

theorem checkR_spec {op : AOp} {v : V} {lo hi : Nat} : ∀ (E : List (Dfs × St)) (m0 : Nat), checkR op tm v lo hi m0 E = true → ∀ m e, E[m]? = some e → lo ≤ m0 + m → m0 + m ≤ hi → readOp op tm e.2 = some v
  | [], m0, h, m, e, he => by simp at he
  | (d, s) :: r, m0, h, m, e, he => by
    intro h1 h2
    simp only [checkR, Bool.and_eq_true] at h
    cases m with
    | zero =>
      simp at he; subst he
      have h := h.1
      rw [if_pos ⟨by omega, by omega⟩] at h
      split at h
      · rename_i u hu; rw [hu, sameV_eq u v h]
      · cases h
    | succ m => exact checkR_spec r (m0 + 1) h.2 m e (by simpa using he) (by omega) (by omega)

theorem checkH_spec {hh : Nat} {z : List V} {hi : Nat} : ∀ (E : List (Dfs × St)) (m0 : Nat), checkH hh z hi m0 E = true → ∀ m e, E[m]? = some e → m0 + m ≤ hi → e.2.objs.get hh = some (.cells false 0 z.length z .nil)
  | [], m0, h, m, e, he => by simp at he
  | (d, s) :: r, m0, h, m, e, he => by
    intro h1
    simp only [checkH, Bool.and_eq_true] at h
    cases m with
    | zero =>
      simp at he; subst he
      have h := h.1
      rw [if_pos (by omega)] at h
      split at h
      · rename_i n z' hz
        simp only [Bool.and_eq_true, beq_iff_eq] at h
        rw [hz, h.1, sameL_eq z' z h.2]
      · cases h
    | succ m => exact checkH_spec r (m0 + 1) h.2 m e (by simpa using he) (by omega)

theorem checkD_spec {E : List (Dfs × St)} : ∀ (dl : List DOper) (hh : Nat) (tr : List (T V × V)), checkD E dl hh tr = true → ∀ j d tm v, dl[j]? = some d → tr[j]? = some (tm, v) →
    (isRead d.o.op = true → wantedA d.o.guard tm = true → checkR d.o.op tm v d.lo d.hi 0 E = true) ∧ (∀ z, d.o.op = .alloc z → checkH (hh + nAlloc (dl.take j)) z d.hi 0 E = true)
  | [], hh, tr, h, j, d, tm, v, hd, ht => by simp at hd
  | x :: r, hh, [], h, j, d, tm, v, hd, ht => by simp at ht
  | x :: r, hh, (tm0, v0) :: tr, h, j, d, tm, v, hd, ht => by
    simp only [checkD, Bool.and_eq_true] at h
    cases j with
    | zero =>
      simp at hd ht; subst hd; obtain ⟨rfl, rfl⟩ := ht
      refine ⟨fun h1 h2 => ?_, fun z hz => ?_⟩
      · have := h.1; rw [h1, h2] at this; simpa using this
      · have := h.2; rw [hz] at this; simp only [Bool.and_eq_true] at this
        simpa [nAlloc] using this.1
    | succ j =>
      simp only [List.getElem?_cons_succ] at hd ht
      have hrest : checkD E r (hh + (if isAlloc x.o.op then 1 else 0)) tr = true := by
        have := h.2
        split at this
        · rename_i z hz; simp only [Bool.and_eq_true] at this; simpa [isAlloc, hz] using this.2
        · rename_i hz
          have : isAlloc x.o.op = false := by unfold isAlloc; split <;> simp_all
          simpa [this]
      obtain ⟨g1, g2⟩ := checkD_spec r _ tr hrest j d tm v hd ht
      refine ⟨g1, fun z hz => ?_⟩
      have := g2 z hz
      simp only [List.take_succ_cons, nAlloc]
      rw [← Nat.add_assoc]; exact this

theorem compOpers_get {n : Nat} {ops : Array Oper} : ∀ {l : List Oper} {al : List AOper}, compOpers P n ops l = some al → al.length = l.length ∧ ∀ (j : Nat) (o : Oper), l[j]? = some o → ∃ ao, al[j]? = some ao ∧ compOper P n ops o = some ao
  | [], al, h => by simp [compOpers] at h; subst h; exact ⟨rfl, fun j o hj => by simp at hj⟩
  | x :: r, al, h => by
    simp only [compOpers] at h
    split at h
    · rename_i a b ha hb
      simp at h; subst h
      obtain ⟨h1, h2⟩ := compOpers_get hb
      refine ⟨by simp [h1], fun j o hj => ?_⟩
      cases j with
      | zero => simp at hj; subst hj; exact ⟨a, rfl, ha⟩
      | succ j => simpa using h2 j o (by simpa using hj)
    · cases h

theorem drawOk_spec {Bf : List Nat} {l : List AOper} (h : drawOk Bf l = true) {j : Nat} {o : AOper} (hj : l[j]? = some o) :
    notOp o.op = true ∧ (isAlloc o.op = true → o.guard = none) ∧ ∀ i p, l[i]? = some p →
      (isEff o.op = true → isEff p.op = true → i < j → (Bf.getD j 0).testBit i = true) ∧
      (i ≠ j → ∀ t, p.dst = some t → t ∈ o.names → (Bf.getD (max i j) 0).testBit (min i j) = true) := by
  unfold drawOk at h
  rw [List.all_eq_true] at h
  have h1 := h (o, j) (by rw [List.mem_zipIdx_iff_getElem?]; exact hj)
  simp only [Bool.and_eq_true, Bool.or_eq_true, Bool.not_eq_true', List.all_eq_true] at h1
  obtain ⟨⟨n1, n2⟩, n3⟩ := h1
  refine ⟨n1, fun ha => ?_, fun i p hi => ?_⟩
  · rcases n2 with q | q
    · rw [ha] at q; cases q
    · cases hg : o.guard <;> simp_all
  · have h2 := n3 (p, i) (by rw [List.mem_zipIdx_iff_getElem?]; exact hi)
    simp only [Bool.and_eq_false_iff, decide_eq_false_iff_not, beq_iff_eq] at h2
    obtain ⟨m1, m2⟩ := h2
    refine ⟨fun e1 e2 e3 => ?_, fun hne t ht hn => ?_⟩
    · rcases m1 with ((q | q) | q) | q
      · rw [e1] at q; cases q
      · rw [e2] at q; cases q
      · omega
      · exact q
    · rcases m2 with q | q
      · exact (hne q).elim
      · rw [ht] at q
        simp only [Bool.or_eq_true, Bool.not_eq_true', List.contains_eq_mem, decide_eq_false_iff_not] at q
        rcases q with q | q
        · exact (q hn).elim
        · exact q

theorem putD_get (tm : T V) (d : Option Nat) (v : V) (t : Nat) : (putD tm d v).get t = if d = some t then some v else tm.get t := by
  cases d with
  | none => simp [putD]
  | some d =>
    simp only [putD, T.get_set, Option.some.injEq]
    by_cases c : t = d
    · rw [if_pos c, if_pos c.symm]
    · rw [if_neg c, if_neg (Ne.symm c)]

theorem tm_agree {tm0 : T V} {dst : Nat → Option Nat} {val : Nat → V} {L L2 : Nat → Bool} {t : Nat} : ∀ (k : Nat), (∀ j, j < k → dst j = some t → L j = L2 j) → (tmOf tm0 dst val L k).get t = (tmOf tm0 dst val L2 k).get t
  | 0, _ => rfl
  | k + 1, h => by
    have ih := tm_agree (L := L) (L2 := L2) (t := t) (tm0 := tm0) (dst := dst) (val := val) k (fun j hj => h j (by omega))
    simp only [tmOf]
    by_cases c : dst k = some t
    · rw [h k (by omega) c]
      split
      · rw [putD_get, putD_get, if_pos c, if_pos c]
      · exact ih
    · split <;> split <;> simp [putD_get, c, ih]

theorem tm_tail {tm0 : T V} {dst : Nat → Option Nat} {val : Nat → V} {L : Nat → Bool} {t i : Nat} : ∀ (k : Nat), i ≤ k → (∀ j, i ≤ j → j < k → dst j = some t → L j = false) → (tmOf tm0 dst val L k).get t = (tmOf tm0 dst val L i).get t
  | 0, h, _ => by have : i = 0 := by omega
                  subst this; rfl
  | k + 1, h, hl => by
    by_cases e : i = k + 1
    · subst e; rfl
    · have ih := tm_tail (L := L) (t := t) (i := i) (tm0 := tm0) (dst := dst) (val := val) k (by omega) (fun j h1 h2 => hl j h1 (by omega))
      simp only [tmOf]
      by_cases c : dst k = some t
      · rw [hl k (by omega) (by omega) c]; simpa using ih
      · split
        · rw [putD_get, if_neg c]; exact ih
        · exact ih

theorem nAlloc_lt {dl : List DOper} {j : Nat} {d : DOper} (hj : dl[j]? = some d) (ha : isAlloc d.o.op = true) : ∀ {i : Nat}, j < i → nAlloc (dl.take j) < nAlloc (dl.take i) := by
  induction dl generalizing j with
  | nil => simp at hj
  | cons x r ih =>
    intro i hi
    cases i with
    | zero => omega
    | succ i =>
      cases j with
      | zero => simp at hj; subst hj; simp [nAlloc, ha]; omega
      | succ j =>
        have := ih (by simpa using hj) (i := i) (by omega)
        simp [nAlloc]; omega
end AM
