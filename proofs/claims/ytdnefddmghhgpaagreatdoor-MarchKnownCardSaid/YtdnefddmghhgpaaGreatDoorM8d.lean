import Derived.Test.YtdnefddmghhgpaaGreatDoorM8c
import Derived.OrdersIn
import Derived.Laws.LoneSync
namespace AM
open Go Go.RowKit
set_option linter.unusedVariables false
set_option linter.unusedSimpArgs false
variable {P : Program} {φ : Phi} {tm : T V} {a : Act} {w : World} {w0 : Base} {σ σ' : St} {G B : Nat} {call : CallT}
def nAlloc : List DOper → Nat
  | [] => 0
  | d :: r => (if isAlloc d.o.op then 1 else 0) + nAlloc r
theorem Rel.hide (h : Rel G B w0 φ σ w) (z : List V) (n : Nat) : Rel G B w0 φ (σ.new (.cells false 0 n z .nil)) w := by
  have hnew : ∀ x o', (σ.objs.set σ.next (.cells false 0 n z .nil)).get x = some o' → (x = σ.next ∧ o' = .cells false 0 n z .nil) ∨ (x ≠ σ.next ∧ σ.objs.get x = some o') := by
    intro x o' hx
    rw [T.get_set] at hx
    by_cases e : x = σ.next
    · rw [if_pos e] at hx; simp at hx; exact .inl ⟨e, hx.symm⟩
    · rw [if_neg e] at hx; exact .inr ⟨e, hx⟩
  have hφ := h.next_none
  refine ⟨h.below, h.B_le, fun x b m hx => ?_, fun g hg => ?_, ?_, ?_, ?_, ?_, ?_, ?_⟩
  · obtain ⟨p, q⟩ := h.dom x b m hx; exact ⟨by simp [St.new]; omega, q⟩
  · obtain ⟨p, q⟩ := h.glob g hg; exact ⟨by simp [St.new]; omega, q⟩
  · intro x o' b m hx hab
    rcases hnew x o' hx with ⟨rfl, _⟩ | ⟨_, hx'⟩
    · rw [hφ] at hab; cases hab
    · exact h.obj x o' b m hx' hab
  · intro x hx
    simp only [St.new] at hx ⊢
    rw [T.get_set, if_neg (by omega)]; exact h.fresh x (by omega)
  · intro x y o1 o2 b m m' hne k1 k2 hm hl h1 h2
    rcases hnew x o1 k1 with ⟨rfl, _⟩ | ⟨_, k1'⟩
    · rw [hφ] at h1; cases h1
    · rcases hnew y o2 k2 with ⟨rfl, _⟩ | ⟨_, k2'⟩
      · rw [hφ] at h2; cases h2
      · exact h.sep x y o1 o2 b m m' hne k1' k2' hm hl h1 h2
  · intro x o' hx hg
    rcases hnew x o' hx with ⟨_, rfl⟩ | ⟨_, hx'⟩
    · exact (hg rfl).elim
    · obtain ⟨p, q⟩ := h.grp x o' hx' hg; exact ⟨by simp [St.new]; omega, q⟩
  · intro g hg; simp only [St.new] at hg ⊢; exact h.gfresh g (by omega)
  · intro x hx; obtain ⟨p, q⟩ := h.pend x hx; exact ⟨p, by simp [St.new]; omega⟩
theorem Rel.reveal (h : Rel G B w0 φ σ w) {hh n : Nat} {z : List V} {zs : List Value} {C : Array Value} {E : TypeId} (ho : σ.objs.get hh = some (.cells false 0 n z .nil)) (hφ : φ hh = none)
    (hz : LR φ z zs) (hC : C.size = n) (hc : ∀ i, i < n → C[i]? = zs[i % zs.length]?) {X' : Nat → Prop} (hX : ∀ x, X' x → w0.X x ∧ x ≠ hh) :
    Rel G B ⟨w0.P, w0.w, X'⟩ (φ.upd hh (w.heap.size, n)) σ (w.alloc (.cells C E)) ∧ φ.le (φ.upd hh (w.heap.size, n)) := by
  have hle := φ.le_upd (a := hh) (w.heap.size, n) hφ
  have hlt := h.lt ho
  refine ⟨⟨h.below.alloc h.B_le _, by simp; have := h.B_le; omega, ?_, ?_, ?_, h.fresh, ?_, h.grp, h.gfresh, ?_⟩, hle⟩
  · intro x b m hab
    by_cases e : x = hh
    · subst e; rw [Phi.upd_same] at hab; simp at hab; obtain ⟨rfl, rfl⟩ := hab; exact ⟨hlt, by simp⟩
    · rw [Phi.upd_ne φ _ e] at hab; obtain ⟨p, q⟩ := h.dom x b m hab; exact ⟨p, by simp; omega⟩
  · intro g hg; obtain ⟨p, m, hm⟩ := h.glob g hg; exact ⟨p, m, hle _ _ hm⟩
  · intro x o b m hx hab
    by_cases e : x = hh
    · subst e
      rw [ho] at hx; simp at hx; subst hx
      rw [Phi.upd_same] at hab; simp at hab; obtain ⟨rfl, rfl⟩ := hab
      refine ⟨C, E, (0, 0), heap_alloc_new w _, hC, fun _ => ⟨rfl, h.B_le⟩, Nat.le_refl _, ?_⟩
      intro i v hi
      unfold cellOf at hi
      split at hi
      · rename_i hlt
        simp only [T.get_nil] at hi
        obtain ⟨y, hy, hv⟩ := hz.get _ v hi
        exact ⟨y, by rw [hc i hlt, hz.length]; exact hy, VR.mono hle _ _ hv⟩
      · cases hi
    · rw [Phi.upd_ne φ _ e] at hab
      exact ((h.obj x o b m hx hab).mono hle).of_block (Below.heap_alloc w _ b (h.dom x b m hab).2)
  · intro x y o1 o2 b m m' hne k1 k2 hm hl h1 h2
    by_cases e : x = hh
    · subst e
      rw [Phi.upd_same] at h1; simp at h1; obtain ⟨rfl, rfl⟩ := h1
      rw [Phi.upd_ne φ _ (Ne.symm hne)] at h2
      have := (h.dom _ _ _ h2).2; omega
    · by_cases e' : y = hh
      · subst e'
        rw [Phi.upd_same] at h2; simp at h2; obtain ⟨rfl, rfl⟩ := h2
        rw [Phi.upd_ne φ _ e] at h1
        have := (h.dom _ _ _ h1).2; omega
      · rw [Phi.upd_ne φ _ e] at h1; rw [Phi.upd_ne φ _ e'] at h2
        exact h.sep x y o1 o2 b m m' hne k1 k2 hm hl h1 h2
  · intro x hx
    obtain ⟨p, q⟩ := hX x hx
    obtain ⟨r, s⟩ := h.pend x p
    exact ⟨by rw [Phi.upd_ne φ _ q]; exact r, s⟩

theorem Rel.weaken {w0' : Base} (h : Rel G B w0 φ σ w) (hw : w0'.w = w0.w) (hP : w0'.P = w0.P) (hX : ∀ x, w0'.X x → φ x = none ∧ x < σ.next) : Rel G B w0' φ σ w :=
  ⟨by rw [hw]; exact h.below, h.B_le, h.dom, h.glob, by rw [hP]; exact h.obj, h.fresh, h.sep, h.grp, h.gfresh, hX⟩

theorem hoist_spec : ∀ (dl : List DOper) (σ : St), (hoist dl σ).next = σ.next + nAlloc dl ∧
    (∀ (σ : St) {w0 : Base} {φ : Phi} {w : World}, Rel G B w0 φ σ w → Rel G B w0 φ (hoist dl σ) w)
  | [], σ => ⟨by simp [hoist, nAlloc], fun σ _ _ _ h => h⟩
  | d :: r, σ => by
    refine ⟨?_, ?_⟩
    · simp only [hoist, nAlloc]
      split
      · rename_i z hz
        rw [(hoist_spec r _).1]; simp [St.new, isAlloc, hz]; omega
      · rename_i hz
        rw [(hoist_spec r _).1]
        have : isAlloc d.o.op = false := by unfold isAlloc; split <;> simp_all
        simp [this]
    · intro σ w0 φ w h
      simp only [hoist]
      split
      · rename_i z hz
        exact (hoist_spec r σ).2 _ (h.hide z z.length)
      · exact (hoist_spec r σ).2 _ h
def nEff : List DOper → Nat
  | [] => 0
  | d :: r => (if isEff d.o.op then 1 else 0) + nEff r
noncomputable def tmOf (tm0 : T V) (dst : Nat → Option Nat) (val : Nat → V) (L : Nat → Bool) : Nat → T V
  | 0 => tm0
  | j + 1 => if L j then putD (tmOf tm0 dst val L j) (dst j) (val j) else tmOf tm0 dst val L j

theorem tmOf_shift (tm0 : T V) (dst : Nat → Option Nat) (val : Nat → V) : ∀ j, tmOf tm0 dst val (fun _ => true) (j + 1) = tmOf (putD tm0 (dst 0) (val 0)) (fun j => dst (j + 1)) (fun j => val (j + 1)) (fun _ => true) j
  | 0 => rfl
  | j + 1 => by
    rw [tmOf, tmOf_shift tm0 dst val j]
    rfl

def StepOk (call : CallT) (d : DOper) (h : Nat) (tm : T V) (v : V) (e1 e2 : Dfs × St) : Prop :=
  if wantedA d.o.guard tm = true then
    if isAlloc d.o.op = true then v = .ptr (some (h, 0)) ∧ e2 = e1
    else evalOp call d.o.op tm e1.1 e1.2 = some (v, e2.1, e2.2)
  else isAlloc d.o.op = false ∧ v = .undef ∧ e2 = e1

theorem evalOp_noeff {op : AOp} {ds ds' : Dfs} {v : V} (h : evalOp call op tm ds σ = some (v, ds', σ')) (he : isEff op = false) (ha : isAlloc op = false) : ds' = ds ∧ σ' = σ := by
  unfold evalOp at h
  split at h
  · split at h
    · simp only [Option.some.injEq, Prod.mk.injEq] at h; exact ⟨h.2.1.symm, h.2.2.symm⟩
    · cases h
  · rename_i h1
    split at h
    · split at h
      · simp only [Option.some.injEq, Prod.mk.injEq] at h; exact ⟨h.2.1.symm, h.2.2.symm⟩
      · cases h
    · rename_i h2
      simp [isEff, h1, h2, ha] at he

def dstOf (dl : List DOper) (j : Nat) : Option Nat := (dl[j]?).bind (·.o.dst)
def valOf (tr : List (T V × V)) (j : Nat) : V := (tr[j]?.map (·.2)).getD .undef

theorem runD_spec : ∀ (dl : List DOper) {h : Nat} {fr fr' : Fr} {σ : St} {tr : List (T V × V)} {es : List (Dfs × St)}, runD call dl h fr σ = some (fr', tr, es) →
    tr.length = dl.length ∧ es.length = nEff dl ∧
    (∀ j d, dl[j]? = some d → ∃ e1 e2, tr[j]? = some (tmOf fr.tmps (dstOf dl) (valOf tr) (fun _ => true) j, valOf tr j) ∧
      ((fr.defers, σ) :: es)[nEff (dl.take j)]? = some e1 ∧ ((fr.defers, σ) :: es)[nEff (dl.take (j + 1))]? = some e2 ∧
      StepOk call d (h + nAlloc (dl.take j)) (tmOf fr.tmps (dstOf dl) (valOf tr) (fun _ => true) j) (valOf tr j) e1 e2) ∧
    ∃ e, ((fr.defers, σ) :: es)[nEff dl]? = some e ∧ fr' = ⟨tmOf fr.tmps (dstOf dl) (valOf tr) (fun _ => true) dl.length, e.1⟩ ∧ lastSt σ es = e.2
  | [], h, fr, fr', σ, tr, es, hr => by
    simp [runD] at hr; obtain ⟨rfl, rfl, rfl⟩ := hr
    exact ⟨rfl, rfl, fun j d hd => by simp at hd, (fr.defers, σ), rfl, rfl, rfl⟩
  | d :: r, h, fr, fr', σ, tr, es, hr => by
    have main : ∀ (h' : Nat) (v : V) (e1 : Dfs × St) (tr' : List (T V × V)) (es' : List (Dfs × St)), runD call r h' ⟨putD fr.tmps d.o.dst v, e1.1⟩ e1.2 = some (fr', tr', es') →
        h' = h + (if isAlloc d.o.op then 1 else 0) → tr = (fr.tmps, v) :: tr' → es = (if isEff d.o.op then e1 :: es' else es') → (isEff d.o.op = false → e1 = (fr.defers, σ)) →
        StepOk call d h fr.tmps v (fr.defers, σ) e1 →
        tr.length = (d :: r).length ∧ es.length = nEff (d :: r) ∧
        (∀ j d', (d :: r)[j]? = some d' → ∃ e1 e2, tr[j]? = some (tmOf fr.tmps (dstOf (d :: r)) (valOf tr) (fun _ => true) j, valOf tr j) ∧
          ((fr.defers, σ) :: es)[nEff ((d :: r).take j)]? = some e1 ∧ ((fr.defers, σ) :: es)[nEff ((d :: r).take (j + 1))]? = some e2 ∧
          StepOk call d' (h + nAlloc ((d :: r).take j)) (tmOf fr.tmps (dstOf (d :: r)) (valOf tr) (fun _ => true) j) (valOf tr j) e1 e2) ∧
        ∃ e, ((fr.defers, σ) :: es)[nEff (d :: r)]? = some e ∧ fr' = ⟨tmOf fr.tmps (dstOf (d :: r)) (valOf tr) (fun _ => true) (d :: r).length, e.1⟩ ∧ lastSt σ es = e.2 := by
      intro h' v e1 tr' es' hrest hh htr hes hsame hstep
      obtain ⟨i1, i2, i3, e, i4, i5, i6⟩ := runD_spec r hrest
      have hval : (fun j => valOf tr (j + 1)) = valOf tr' := by funext j; rw [htr]; simp [valOf]
      have hval0 : valOf tr 0 = v := by rw [htr]; rfl
      have hdst : (fun j => dstOf (d :: r) (j + 1)) = dstOf r := by funext j; simp [dstOf]
      have hdst0 : dstOf (d :: r) 0 = d.o.dst := rfl
      have hshift : ∀ j, tmOf fr.tmps (dstOf (d :: r)) (valOf tr) (fun _ => true) (j + 1) = tmOf (putD fr.tmps d.o.dst v) (dstOf r) (valOf tr') (fun _ => true) j := by
        intro j; rw [tmOf_shift, hval, hdst, hval0, hdst0]
      have hidx : ∀ m, ((fr.defers, σ) :: es)[(if isEff d.o.op then 1 else 0) + m]? = ((e1.1, e1.2) :: es')[m]? := by
        intro m
        rw [hes]
        cases he : isEff d.o.op with
        | true => simp only [if_true]; rw [Nat.add_comm]; rfl
        | false => simp only [Bool.false_eq_true, if_false, Nat.zero_add]; rw [hsame he]
      refine ⟨by rw [htr]; simp [i1], ?_, ?_, e, ?_, ?_, ?_⟩
      · rw [hes]; simp only [nEff]; split <;> simp [i2]; omega
      · intro j d' hd'
        cases j with
        | zero =>
          simp at hd'; subst hd'
          refine ⟨(fr.defers, σ), e1, ?_, rfl, ?_, ?_⟩
          · rw [htr]; simp [tmOf, valOf]
          · have := hidx 0
            simp only [Nat.add_zero, List.getElem?_cons_zero] at this
            simp only [List.take_succ_cons, List.take_zero, nEff, Nat.add_zero]
            exact this
          · simp only [List.take_zero, nAlloc, Nat.add_zero, tmOf, hval0]; exact hstep
        | succ j =>
          simp only [List.getElem?_cons_succ] at hd'
          obtain ⟨f1, f2, g1, g2, g3, g4⟩ := i3 j d' hd'
          have hv' : valOf tr (j + 1) = valOf tr' j := congrFun hval j
          refine ⟨f1, f2, ?_, ?_, ?_, ?_⟩
          · rw [hshift, hv', htr]; simpa using g1
          · simp only [List.take_succ_cons, nEff]; rw [hidx]; exact g2
          · simp only [List.take_succ_cons, nEff]; rw [hidx]; exact g3
          · rw [hshift, hv']
            simp only [List.take_succ_cons, nAlloc]
            rw [hh] at g4
            rw [← Nat.add_assoc]; exact g4
      · simp only [nEff]; rw [hidx]; exact i4
      · rw [i5]; simp only [List.length_cons]; rw [hshift]
      · rw [hes, ← i6]
        cases he : isEff d.o.op with
        | true => rfl
        | false => simp only [Bool.false_eq_true, if_false]; rw [hsame he]
    simp only [runD] at hr
    split at hr
    · rename_i hw
      split at hr
      · rename_i ha
        split at hr
        · rename_i f' tr' es' hrest
          simp at hr; obtain ⟨rfl, rfl, rfl⟩ := hr
          have he : isEff d.o.op = false := by simp [isEff, ha]
          exact main (h + 1) _ (fr.defers, σ) tr' es' hrest (by simp [ha]) rfl (by simp [he]) (fun _ => rfl) (by unfold StepOk; rw [if_pos hw, if_pos ha]; exact ⟨rfl, rfl⟩)
        · cases hr
      · rename_i ha
        split at hr
        · rename_i v ds σ1 hev
          split at hr
          · rename_i f' tr' es' hrest
            simp at hr; obtain ⟨rfl, rfl, rfl⟩ := hr
            refine main h v (ds, σ1) tr' es' hrest (by simp [ha]) rfl rfl (fun he => ?_) (by unfold StepOk; rw [if_pos hw, if_neg ha]; exact hev)
            obtain ⟨q1, q2⟩ := evalOp_noeff hev he (by simpa using ha)
            rw [q1, q2]
          · cases hr
        · cases hr
    · rename_i hw
      split at hr
      · cases hr
      · rename_i ha
        split at hr
        · rename_i f' tr' es' hrest
          simp at hr; obtain ⟨rfl, rfl, rfl⟩ := hr
          exact main h .undef (fr.defers, σ) tr' es' hrest (by simp [ha]) rfl rfl (fun _ => rfl) (by unfold StepOk; rw [if_neg hw]; exact ⟨by simpa using ha, rfl, rfl⟩)
        · cases hr
theorem cnt_congr {p q : Nat → Bool} : ∀ {k : Nat}, (∀ j, j < k → p j = q j) → cntP p k = cntP q k
  | 0, _ => rfl
  | k + 1, h => by simp only [cntP]; rw [cnt_congr (k := k) (fun j hj => h j (by omega)), h k (by omega)]
theorem cnt_mono {p q : Nat → Bool} : ∀ {k : Nat}, (∀ j, j < k → p j = true → q j = true) → cntP p k ≤ cntP q k
  | 0, _ => Nat.le_refl _
  | k + 1, h => by
    have := cnt_mono (p := p) (q := q) (k := k) (fun j hj => h j (by omega))
    have hk := h k (by omega)
    simp only [cntP]
    cases hp : p k with
    | false => simp; omega
    | true => rw [hk hp]; simp; omega
theorem cnt_le {p : Nat → Bool} : ∀ {k : Nat}, cntP p k ≤ k
  | 0 => Nat.le_refl _
  | k + 1 => by have := cnt_le (p := p) (k := k); simp only [cntP]; split <;> omega
theorem cnt_full {p : Nat → Bool} : ∀ {k : Nat}, cntP p k = k → ∀ j, j < k → p j = true
  | 0, _, j, hj => by omega
  | k + 1, h, j, hj => by
    have hle := cnt_le (p := p) (k := k)
    simp only [cntP] at h
    cases hp : p k with
    | false => rw [hp] at h; simp at h; omega
    | true =>
      rw [hp] at h; simp at h
      by_cases e : j = k
      · rw [e]; exact hp
      · exact cnt_full h j (by omega)
theorem cnt_set {p q : Nat → Bool} {i : Nat} (h0 : p i = false) (h1 : q i = true) : ∀ {k : Nat}, (∀ j, j < k → j ≠ i → q j = p j) → cntP q k = cntP p k + (if i < k then 1 else 0)
  | 0, _ => by simp [cntP]
  | k + 1, h => by
    have ih := cnt_set (p := p) (q := q) h0 h1 (k := k) (fun j hj => h j (by omega))
    simp only [cntP]
    by_cases e : k = i
    · subst e
      rw [ih, h0, h1]; simp
    · rw [ih, h k (by omega) e]
      have : (if i < k then 1 else 0 : Nat) = (if i < k + 1 then 1 else 0) := by split <;> split <;> omega
      omega
theorem cnt_same {p q : Nat → Bool} {i : Nat} {k : Nat} (h0 : q i = p i) (h : ∀ j, j < k → j ≠ i → q j = p j) : cntP q k = cntP p k :=
  cnt_congr (fun j hj => by by_cases e : j = i; rw [e, h0]; exact h j hj e)
theorem cnt_prefix {p q : Nat → Bool} {i : Nat} : ∀ {k : Nat}, i ≤ k → (∀ j, j < k → p j = (q j && decide (j < i))) → cntP p k = cntP q i
  | 0, h, _ => by have : i = 0 := by omega
                  subst this; rfl
  | k + 1, h, hp => by
    by_cases e : i = k + 1
    · subst e; exact cnt_congr (fun j hj => by rw [hp j hj]; simp [hj])
    · simp only [cntP]
      rw [hp k (by omega), cnt_prefix (p := p) (q := q) (i := i) (k := k) (by omega) (fun j hj => hp j (by omega))]
      have : decide (k < i) = false := by simp; omega
      simp [this]

theorem nEff_take (dl : List DOper) : ∀ j, nEff (dl.take j) = cntP (fun i => (dl[i]?).any (fun d => isEff d.o.op)) (min j dl.length) := by
  induction dl with
  | nil => intro j; simp [nEff, cntP]
  | cons d r ih =>
    intro j
    cases j with
    | zero => simp [nEff, cntP]
    | succ j =>
      have hs : ∀ k, cntP (fun i => ((d :: r)[i]?).any (fun d => isEff d.o.op)) (k + 1) = (if isEff d.o.op then 1 else 0) + cntP (fun i => (r[i]?).any (fun d => isEff d.o.op)) k := by
        intro k
        induction k with
        | zero => simp [cntP]
        | succ k ihk => rw [cntP, ihk, cntP]; simp; omega
      have hm : min (j + 1) (d :: r).length = min j r.length + 1 := by simp [Nat.add_min_add_right]
      rw [List.take_succ_cons, nEff, ih, hm, hs]
theorem maskOf_bit (acc : List Nat) (i : Nat) : ∀ (es : List Edge), (maskOf acc es).testBit i = true ↔ ∃ e ∈ es, Region.binds .any e = true ∧ (i = e.on ∨ (acc.getD e.on 0).testBit i = true) := by
  intro es
  have gen : ∀ (es : List Edge) (s : Nat), (es.foldl (fun s e => if Region.binds .any e then s ||| 2 ^ e.on ||| acc.getD e.on 0 else s) s).testBit i = true ↔
      s.testBit i = true ∨ ∃ e ∈ es, Region.binds .any e = true ∧ (i = e.on ∨ (acc.getD e.on 0).testBit i = true) := by
    intro es
    induction es with
    | nil => intro s; simp
    | cons e r ih =>
      intro s
      simp only [List.foldl_cons, ih, List.mem_cons, exists_eq_or_imp]
      cases hb : Region.binds .any e with
      | false => simp
      | true =>
        simp only [if_true, Nat.testBit_or, Bool.or_eq_true, Nat.testBit_two_pow, decide_eq_true_eq, true_and]
        constructor
        · rintro (((h | h) | h) | h)
          · exact .inl h
          · exact .inr (.inl (.inl h.symm))
          · exact .inr (.inl (.inr h))
          · exact .inr (.inr h)
        · rintro (h | (h | h) | h)
          · exact .inl (.inl (.inl h))
          · exact .inl (.inl (.inr h.symm))
          · exact .inl (.inr h)
          · exact .inr h
  have := gen es 0
  simpa [maskOf] using this

theorem befs_spec : ∀ (l : List Oper) (acc : List Nat), (befs acc l).length = acc.length + l.length ∧ (∀ j, j < acc.length → (befs acc l)[j]? = acc[j]?) ∧
    ∀ j o, l[j]? = some o → (befs acc l)[acc.length + j]? = some (maskOf ((befs acc l).take (acc.length + j)) o.after.toList)
  | [], acc => ⟨by simp [befs], fun j hj => rfl, fun j o h => by simp at h⟩
  | x :: r, acc => by
    obtain ⟨h1, h2, h3⟩ := befs_spec r (acc ++ [maskOf acc x.after.toList])
    simp only [befs]
    refine ⟨by rw [h1]; simp; omega, fun j hj => by rw [h2 j (by simp; omega), List.getElem?_append_left hj], fun j o hj => ?_⟩
    cases j with
    | zero =>
      simp at hj; subst hj
      have htake : (befs (acc ++ [maskOf acc x.after.toList]) r).take (acc.length + 0) = acc := by
        apply List.ext_getElem?
        intro i
        rw [List.getElem?_take]
        by_cases c : i < acc.length
        · rw [if_pos (by omega), h2 i (by simp; omega), List.getElem?_append_left c]
        · rw [if_neg (by omega), List.getElem?_eq_none (by omega)]
      rw [htake, h2 _ (by simp)]
      simp
    | succ j =>
      have := h3 j o (by simpa using hj)
      simp only [List.length_append, List.length_cons, List.length_nil] at this
      rw [show acc.length + (j + 1) = acc.length + (0 + 1) + j by omega]; exact this
theorem bit_closed {ops : List Oper} {L : Nat → Bool} (hcl : ∀ j o, L j = true → ops[j]? = some o → ∀ e ∈ o.after.toList, Region.binds .any e = true → L e.on = true) :
    ∀ (j i : Nat) (o : Oper), ops[j]? = some o → (∀ e ∈ o.after.toList, Region.binds .any e = true → L e.on = true) → ((befs [] ops).getD j 0).testBit i = true → L i = true := by
  intro j
  induction j using Nat.strongRecOn with
  | _ j ih =>
    intro i o ho hr hbit
    obtain ⟨h1, _, h3⟩ := befs_spec ops []
    have hj := h3 j o ho
    simp only [List.length_nil, Nat.zero_add] at hj
    have hjlt : j < ops.length := by
      rcases Nat.lt_or_ge j ops.length with k | k
      · exact k
      · rw [List.getElem?_eq_none k] at ho; cases ho
    rw [List.getD_eq_getElem?_getD, hj, Option.getD_some, maskOf_bit] at hbit
    obtain ⟨e, he, hb, hcase⟩ := hbit
    have hLe := hr e he hb
    rcases hcase with rfl | hbit
    · exact hLe
    · by_cases c : e.on < j
      · rw [List.getD_eq_getElem?_getD, List.getElem?_take, if_pos c] at hbit
        obtain ⟨o', ho'⟩ : ∃ o', ops[e.on]? = some o' := ⟨ops[e.on], by simp⟩
        exact ih e.on c i o' ho' (hcl e.on o' hLe ho') (by rw [List.getD_eq_getElem?_getD]; exact hbit)
      · rw [List.getD_eq_getElem?_getD, List.getElem?_take, if_neg c] at hbit
        simp at hbit

theorem edgesOk_spec : ∀ (l : List Oper) (k : Nat), edgesOk k l = true → ∀ j o, l[j]? = some o → ∀ e ∈ o.after.toList, Region.binds .any e = true → e.on < k + j
  | [], k, h, j, o, hj => by simp at hj
  | x :: r, k, h, j, o, hj => by
    simp only [edgesOk, Bool.and_eq_true, List.all_eq_true, Bool.or_eq_true, Bool.not_eq_true', decide_eq_true_eq] at h
    intro e he hb
    cases j with
    | zero =>
      simp at hj; subst hj
      rcases h.1 e he with q | q
      · rw [q] at hb; cases hb
      · exact q
    | succ j => have := edgesOk_spec r (k + 1) h.2 j o (by simpa using hj) e he hb; omega

theorem checkR_spec {op : AOp} {v : V} {lo hi : Nat} : ∀ (E : List (Dfs × St)) (m0 : Nat), checkR op tm v lo hi m0 E = true → ∀ m e, E[m]? = some e → lo ≤ m0 + m → m0 + m ≤ hi → readOp op tm e.2 = some v
  | [], m0, h, m, e, he => by simp at he
  | (d, s) :: r, m0, h, m, e, he => by
    intro h1 h2
    simp only [checkR, Bool.and_eq_true] at h
    cases m with
    | zero =>
      simp at he; subst he
      have h := h.1
      rw [if_pos ⟨by omega, by omega⟩] at h
      split at h
      · rename_i u hu; rw [hu, sameV_eq u v h]
      · cases h
    | succ m => exact checkR_spec r (m0 + 1) h.2 m e (by simpa using he) (by omega) (by omega)

theorem checkH_spec {hh : Nat} {z : List V} {hi : Nat} : ∀ (E : List (Dfs × St)) (m0 : Nat), checkH hh z hi m0 E = true → ∀ m e, E[m]? = some e → m0 + m ≤ hi → e.2.objs.get hh = some (.cells false 0 z.length z .nil)
  | [], m0, h, m, e, he => by simp at he
  | (d, s) :: r, m0, h, m, e, he => by
    intro h1
    simp only [checkH, Bool.and_eq_true] at h
    cases m with
    | zero =>
      simp at he; subst he
      have h := h.1
      rw [if_pos (by omega)] at h
      split at h
      · rename_i n z' hz
        simp only [Bool.and_eq_true, beq_iff_eq] at h
        rw [hz, h.1, sameL_eq z' z h.2]
      · cases h
    | succ m => exact checkH_spec r (m0 + 1) h.2 m e (by simpa using he) (by omega)

theorem checkD_spec {E : List (Dfs × St)} : ∀ (dl : List DOper) (hh : Nat) (tr : List (T V × V)), checkD E dl hh tr = true → ∀ j d tm v, dl[j]? = some d → tr[j]? = some (tm, v) →
    (isRead d.o.op = true → wantedA d.o.guard tm = true → checkR d.o.op tm v d.lo d.hi 0 E = true) ∧ (∀ z, d.o.op = .alloc z → checkH (hh + nAlloc (dl.take j)) z d.hi 0 E = true)
  | [], hh, tr, h, j, d, tm, v, hd, ht => by simp at hd
  | x :: r, hh, [], h, j, d, tm, v, hd, ht => by simp at ht
  | x :: r, hh, (tm0, v0) :: tr, h, j, d, tm, v, hd, ht => by
    simp only [checkD, Bool.and_eq_true] at h
    cases j with
    | zero =>
      simp at hd ht; subst hd; obtain ⟨rfl, rfl⟩ := ht
      refine ⟨fun h1 h2 => ?_, fun z hz => ?_⟩
      · have := h.1; rw [h1, h2] at this; simpa using this
      · have := h.2; rw [hz] at this; simp only [Bool.and_eq_true] at this
        simpa [nAlloc] using this.1
    | succ j =>
      simp only [List.getElem?_cons_succ] at hd ht
      have hrest : checkD E r (hh + (if isAlloc x.o.op then 1 else 0)) tr = true := by
        have := h.2
        split at this
        · rename_i z hz; simp only [Bool.and_eq_true] at this; simpa [isAlloc, hz] using this.2
        · rename_i hz
          have : isAlloc x.o.op = false := by unfold isAlloc; split <;> simp_all
          simpa [this]
      obtain ⟨g1, g2⟩ := checkD_spec r _ tr hrest j d tm v hd ht
      refine ⟨g1, fun z hz => ?_⟩
      have := g2 z hz
      simp only [List.take_succ_cons, nAlloc]
      rw [← Nat.add_assoc]; exact this

theorem compOpers_get {n : Nat} {ops : Array Oper} : ∀ {l : List Oper} {al : List AOper}, compOpers P n ops l = some al → al.length = l.length ∧ ∀ (j : Nat) (o : Oper), l[j]? = some o → ∃ ao, al[j]? = some ao ∧ compOper P n ops o = some ao
  | [], al, h => by simp [compOpers] at h; subst h; exact ⟨rfl, fun j o hj => by simp at hj⟩
  | x :: r, al, h => by
    simp only [compOpers] at h
    split at h
    · rename_i a b ha hb
      simp at h; subst h
      obtain ⟨h1, h2⟩ := compOpers_get hb
      refine ⟨by simp [h1], fun j o hj => ?_⟩
      cases j with
      | zero => simp at hj; subst hj; exact ⟨a, rfl, ha⟩
      | succ j => simpa using h2 j o (by simpa using hj)
    · cases h

theorem drawOk_spec {Bf : List Nat} {l : List AOper} (h : drawOk Bf l = true) {j : Nat} {o : AOper} (hj : l[j]? = some o) :
    notOp o.op = true ∧ (isAlloc o.op = true → o.guard = none) ∧ ∀ i p, l[i]? = some p →
      (isEff o.op = true → isEff p.op = true → i < j → (Bf.getD j 0).testBit i = true) ∧
      (i ≠ j → ∀ t, p.dst = some t → t ∈ o.names → (Bf.getD (max i j) 0).testBit (min i j) = true) := by
  unfold drawOk at h
  rw [List.all_eq_true] at h
  have h1 := h (o, j) (by rw [List.mem_zipIdx_iff_getElem?]; exact hj)
  simp only [Bool.and_eq_true, Bool.or_eq_true, Bool.not_eq_true', List.all_eq_true] at h1
  obtain ⟨⟨n1, n2⟩, n3⟩ := h1
  refine ⟨n1, fun ha => ?_, fun i p hi => ?_⟩
  · rcases n2 with q | q
    · rw [ha] at q; cases q
    · cases hg : o.guard <;> simp_all
  · have h2 := n3 (p, i) (by rw [List.mem_zipIdx_iff_getElem?]; exact hi)
    simp only [Bool.and_eq_false_iff, decide_eq_false_iff_not, beq_iff_eq] at h2
    obtain ⟨m1, m2⟩ := h2
    refine ⟨fun e1 e2 e3 => ?_, fun hne t ht hn => ?_⟩
    · rcases m1 with ((q | q) | q) | q
      · rw [e1] at q; cases q
      · rw [e2] at q; cases q
      · omega
      · exact q
    · rcases m2 with q | q
      · exact (hne q).elim
      · rw [ht] at q
        simp only [Bool.or_eq_true, Bool.not_eq_true', List.contains_eq_mem, decide_eq_false_iff_not] at q
        rcases q with q | q
        · exact (q hn).elim
        · exact q

theorem putD_get (tm : T V) (d : Option Nat) (v : V) (t : Nat) : (putD tm d v).get t = if d = some t then some v else tm.get t := by
  cases d with
  | none => simp [putD]
  | some d =>
    simp only [putD, T.get_set, Option.some.injEq]
    by_cases c : t = d
    · rw [if_pos c, if_pos c.symm]
    · rw [if_neg c, if_neg (Ne.symm c)]

theorem tm_agree {tm0 : T V} {dst : Nat → Option Nat} {val : Nat → V} {L L2 : Nat → Bool} {t : Nat} : ∀ (k : Nat), (∀ j, j < k → dst j = some t → L j = L2 j) → (tmOf tm0 dst val L k).get t = (tmOf tm0 dst val L2 k).get t
  | 0, _ => rfl
  | k + 1, h => by
    have ih := tm_agree (L := L) (L2 := L2) (t := t) (tm0 := tm0) (dst := dst) (val := val) k (fun j hj => h j (by omega))
    simp only [tmOf]
    by_cases c : dst k = some t
    · rw [h k (by omega) c]
      split
      · rw [putD_get, putD_get, if_pos c, if_pos c]
      · exact ih
    · split <;> split <;> simp [putD_get, c, ih]

theorem tm_tail {tm0 : T V} {dst : Nat → Option Nat} {val : Nat → V} {L : Nat → Bool} {t i : Nat} : ∀ (k : Nat), i ≤ k → (∀ j, i ≤ j → j < k → dst j = some t → L j = false) → (tmOf tm0 dst val L k).get t = (tmOf tm0 dst val L i).get t
  | 0, h, _ => by have : i = 0 := by omega
                  subst this; rfl
  | k + 1, h, hl => by
    by_cases e : i = k + 1
    · subst e; rfl
    · have ih := tm_tail (L := L) (t := t) (i := i) (tm0 := tm0) (dst := dst) (val := val) k (by omega) (fun j h1 h2 => hl j h1 (by omega))
      simp only [tmOf]
      by_cases c : dst k = some t
      · rw [hl k (by omega) (by omega) c]; simpa using ih
      · split
        · rw [putD_get, if_neg c]; exact ih
        · exact ih

theorem nAlloc_lt {dl : List DOper} {j : Nat} {d : DOper} (hj : dl[j]? = some d) (ha : isAlloc d.o.op = true) : ∀ {i : Nat}, j < i → nAlloc (dl.take j) < nAlloc (dl.take i) := by
  induction dl generalizing j with
  | nil => simp at hj
  | cons x r ih =>
    intro i hi
    cases i with
    | zero => omega
    | succ i =>
      cases j with
      | zero => simp at hj; subst hj; simp [nAlloc, ha]; omega
      | succ j =>
        have := ih (by simpa using hj) (i := i) (by omega)
        simp [nAlloc]; omega
end AM
namespace AM
open Go Go.RowKit
set_option linter.unusedVariables false
set_option linter.unusedSimpArgs false
variable {P : Program} {φ : Phi} {tm : T V} {a : Act} {w : World} {w0 : Base} {σ σ' : St} {G B : Nat} {call : CallT}

theorem cLoad_na {t : TypeId} {x : Operand} {z : List V} : cLoad P t x ≠ some (.alloc z) := by
  intro h; unfold cLoad at h; repeat' (split at h)
  all_goals cases h
theorem cSlice_na {t : TypeId} {x : Operand} {lo hi mx : Option Operand} {z : List V} : cSlice P t x lo hi mx ≠ some (.alloc z) := by
  intro h; unfold cSlice at h; repeat' (split at h)
  all_goals cases h
theorem cBin_na {op : BinOp} {t : TypeId} {x y : Operand} {z : List V} : cBin P op t x y ≠ some (.alloc z) := by
  intro h; unfold cBin at h; repeat' (split at h)
  all_goals cases h
theorem cBuiltin_na {b : Builtin} {ts : Array TypeId} {args : List Operand} {z : List V} : cBuiltin P b ts args ≠ some (.alloc z) := by
  intro h; unfold cBuiltin at h; repeat' (split at h)
  all_goals cases h
theorem compOp_alloc {ops : Array Oper} {o : Oper} {z : List V} (h : compOp P ops o = some (.alloc z)) : ∃ t, o.op = .alloc t ∧ zeroC P t = some z := by
  have h := (compOp_spec h).resolve_right (fun h => by have := compY_isX h; simp [isX] at this)
  unfold compOp0 at h
  split at h
  all_goals (first | (exact (cLoad_na h).elim) | (exact (cSlice_na h).elim) | (exact (cBin_na h).elim) | skip)
  case h_4 =>
    split at h
    · cases h; exact ⟨_, by assumption, by assumption⟩
    · cases h
  all_goals (repeat' (split at h))
  all_goals (first | (exact (cBuiltin_na h).elim) | cases h)

theorem draw_sound (hmix : P.follows .mixedOrders = true) (hGP : P.globals.size ≤ G) (hcall : CallSound1 P G call) : DrawSound P G call := by
  intro n id ops dl hdl fr fr' σ σ' hrun ro B w0 φ a w hnd hP hR hF
  unfold compDraw at hdl
  split at hdl
  · cases hdl
  rename_i l hl
  split at hdl
  rotate_left
  · cases hdl
  rename_i hok
  simp only [Bool.and_eq_true] at hok
  obtain ⟨hdok, hedges⟩ := hok
  simp only [Option.some.injEq] at hdl
  unfold runDraw at hrun
  split at hrun
  rotate_left
  · cases hrun
  rename_i fr2 tr es hrd
  split at hrun
  rotate_left
  · cases hrun
  rename_i hchk
  simp only [Option.some.injEq, Prod.mk.injEq] at hrun
  obtain ⟨rfl, rfl⟩ := hrun
  obtain ⟨hlen, hget⟩ := compOpers_get hl
  have hN : l.length = ops.size := by simpa using hlen
  obtain ⟨hnext, hhoist⟩ := hoist_spec (G := G) (B := B) dl σ
  have hRh := hhoist σ hR
  generalize hσh : hoist dl σ = σh at *
  obtain ⟨htrl, hesl, hsteps, efin, hefin, hfrfin, hlast⟩ := runD_spec dl hrd
  generalize hBf : befs [] ops.toList = Bf at *
  have hdlget : ∀ (j : Nat) (ao : AOper), l[j]? = some ao → dl[j]? = some ⟨ao, loOf Bf l j, hiOf Bf l j⟩ := by
    intro j ao hj; rw [← hdl]; simp [hj]
  have hdllen : dl.length = ops.size := by rw [← hdl]; simp [hN]
  have heff : ∀ j, (dl[j]?).any (fun d => isEff d.o.op) = effAt l j := by
    intro j
    unfold effAt
    cases hj : l[j]? with
    | none =>
      have : dl[j]? = none := by rw [← hdl]; simp [hj]
      rw [this]; rfl
    | some ao => rw [hdlget j ao hj]; rfl
  have hnEff : ∀ j, nEff (dl.take j) = cntP (effAt l) (min j ops.size) := by
    intro j; rw [nEff_take, hdllen]; exact cnt_congr (fun i _ => heff i)
  generalize hE : (fr.defers, σh) :: es = E at *
  generalize htm : (fun (L : Nat → Bool) (j : Nat) => tmOf fr.tmps (dstOf dl) (valOf tr) L j) = TM
  have hTM : ∀ L j, tmOf fr.tmps (dstOf dl) (valOf tr) L j = TM L j := fun L j => by rw [← htm]
  let Hh : Nat → Nat := fun j => σ.next + nAlloc (dl.take j)
  let XL : (Nat → Bool) → Nat → Prop := fun L x => w0.X x ∨ ∃ j ao, L j = false ∧ l[j]? = some ao ∧ isAlloc ao.op = true ∧ x = Hh j
  have hopget : ∀ j, j < ops.size → ∃ o ao, ops[j]? = some o ∧ ops.toList[j]? = some o ∧ l[j]? = some ao ∧ compOper P n ops o = some ao := by
    intro j hj
    have ho : ops.toList[j]? = some ops[j] := by simp [hj]
    obtain ⟨ao, h1, h2⟩ := hget j _ ho
    exact ⟨ops[j], ao, by simp [hj], ho, h1, h2⟩
  have hdst : ∀ j ao, l[j]? = some ao → dstOf dl j = ao.dst := by
    intro j ao hj; unfold dstOf; rw [hdlget j ao hj]; rfl
  have hdltake : dl.take ops.size = dl := by rw [← hdllen]; exact List.take_length
  have hfull : nEff dl = cntP (effAt l) ops.size := by have := hnEff ops.size; rw [hdltake, Nat.min_self] at this; exact this
  have hfin : ∀ (L : Nat → Bool) (a : Act) (w : World), (∀ j, j < ops.size → L j = true) →
      (∃ φ1 e, φ.le φ1 ∧ E[cntP (fun j => effAt l j && L j) ops.size]? = some e ∧ Rel G B ⟨w0.P, w0.w, XL L⟩ φ1 e.2 w ∧ DR P φ1 e.1 a.defers ∧ n ≤ a.tmps.size ∧
        ∀ t, VR φ1 (((TM L ops.size).get t).getD .undef) (a.tmps.getD t Go.undef)) →
      ∃ φ', φ.le φ' ∧ Rel G B w0 φ' (lastSt σh es) w ∧ FR P n φ' fr2 a := by
    intro L a w hall ⟨φ1, e, hle, he, hR1, hD1, hsz1, hT1⟩
    have hm : cntP (fun j => effAt l j && L j) ops.size = nEff dl := by
      rw [hfull]; exact cnt_congr (fun j hj => by rw [hall j hj]; simp)
    rw [hm, hefin] at he
    simp at he; subst he
    refine ⟨φ1, hle, ?_, ?_⟩
    · rw [hlast]
      exact hR1.weaken rfl rfl (fun x hx => hR1.pend x (.inl hx))
    · rw [hfrfin]
      refine ⟨fun t => ?_, hsz1, hD1⟩
      have hag : (TM L ops.size).get t = (TM (fun _ => true) dl.length).get t := by
        rw [hdllen, ← hTM, ← hTM]
        exact tm_agree _ (fun j hj _ => hall j hj)
      have := hT1 t
      rw [hag] at this
      simp only
      rw [hTM]; exact this
  refine wpIn_region_any hmix ?_
  have step : ∀ (fuel : Nat) (listed : Array Bool) (a : Act) (w : World), listed.size = ops.size →
      (∀ j o, listed.getD j false = true → ops.toList[j]? = some o → ∀ e ∈ o.after.toList, Region.binds .any e = true → listed.getD e.on false = true) →
      (fuel + 1) + cntP (fun j => listed.getD j false) ops.size = ops.size →
      (∃ φ1 e, φ.le φ1 ∧ E[cntP (fun j => effAt l j && listed.getD j false) ops.size]? = some e ∧ Rel G B ⟨w0.P, w0.w, XL (fun j => listed.getD j false)⟩ φ1 e.2 w ∧ DR P φ1 e.1 a.defers ∧ n ≤ a.tmps.size ∧
        ∀ t, VR φ1 (((TM (fun j => listed.getD j false) ops.size).get t).getD .undef) (a.tmps.getD t Go.undef)) →
      ∀ i ∈ Region.ready .any ops listed,
      (∀ (listed : Array Bool) (a : Act) (w : World), listed.size = ops.size →
        (∀ j o, listed.getD j false = true → ops.toList[j]? = some o → ∀ e ∈ o.after.toList, Region.binds .any e = true → listed.getD e.on false = true) →
        fuel + cntP (fun j => listed.getD j false) ops.size = ops.size →
        (∃ φ1 e, φ.le φ1 ∧ E[cntP (fun j => effAt l j && listed.getD j false) ops.size]? = some e ∧ Rel G B ⟨w0.P, w0.w, XL (fun j => listed.getD j false)⟩ φ1 e.2 w ∧ DR P φ1 e.1 a.defers ∧ n ≤ a.tmps.size ∧
          ∀ t, VR φ1 (((TM (fun j => listed.getD j false) ops.size).get t).getD .undef) (a.tmps.getD t Go.undef)) →
        wpAnyIn (fw ro) 0 P .any ops (fun e a' w' => e = .normal ∧ ∃ φ', φ.le φ' ∧ Rel G B w0 φ' (lastSt σh es) w' ∧ FR P n φ' fr2 a') fuel listed a w) →
      wpOpIn (fw ro) 0 P ops (fun e a' w' => e = .normal ∧ ∃ φ', φ.le φ' ∧ Rel G B w0 φ' (lastSt σh es) w' ∧ FR P n φ' fr2 a') i
        (wpAnyIn (fw ro) 0 P .any ops (fun e a' w' => e = .normal ∧ ∃ φ', φ.le φ' ∧ Rel G B w0 φ' (lastSt σh es) w' ∧ FR P n φ' fr2 a') fuel (listed.setIfInBounds i true)) a w := by
    intro fuel listed a w hsz hcl hcnt hinv i hi ih
    obtain ⟨h0, o, ho, hedge⟩ := mem_ready.1 hi
    have hilt : i < ops.size := (Array.getElem?_eq_some_iff.1 ho).1
    obtain ⟨o', ao, ho1, ho2, hao, hcomp⟩ := hopget i hilt
    have : o' = o := by rw [ho] at ho1; cases ho1; rfl
    subst this
    obtain ⟨hcop, hcdst, hcok⟩ := compOper_spec hcomp
    have hmemo := List.mem_of_getElem? ho2
    obtain ⟨φ1, e, hle1, he, hR1, hD1, hsz1, hT1⟩ := hinv
    generalize hL : (fun j => listed.getD j false) = L at *
    have hgl : ∀ j, listed.getD j false = L j := fun j => congrFun hL j
    simp only [hgl] at he
    have hLi : L i = false := by rw [← hL]; simp [Array.getD, hsz, hilt] at h0 ⊢; exact h0
    have hL' : (fun j => (listed.setIfInBounds i true).getD j false) = fun j => if j = i then true else L j := by
      funext j
      by_cases c : j = i
      · subst c; simp [Array.getD, hsz, hilt]
      · rw [if_neg c, ← hL]; simp only; rw [getD_set_ne false (Ne.symm c)]
    have hcl2 : ∀ j o, L j = true → ops.toList[j]? = some o → ∀ e ∈ o.after.toList, Region.binds .any e = true → L e.on = true := by
      rw [← hL]; exact hcl
    have hedge2 : ∀ e ∈ o'.after.toList, Region.binds .any e = true → L e.on = true := by
      rw [← hL]; intro e he hb; exact hedge e (by simpa using he) hb
    have hbefore : ∀ j, (Bf.getD i 0).testBit j = true → L j = true := by
      intro j hj; rw [← hBf] at hj; exact bit_closed hcl2 i j o' ho2 hedge2 hj
    have hbehind : ∀ j, j < ops.size → (Bf.getD j 0).testBit i = true → L j = false := by
      intro j hj hb
      cases hc : L j with
      | false => rfl
      | true =>
        obtain ⟨oj, _, _, hoj, _, _⟩ := hopget j hj
        rw [← hBf] at hb
        have := bit_closed hcl2 j i oj hoj (fun e he hb' => hcl2 j oj hc hoj e he hb') hb
        rw [hLi] at this; cases this
    obtain ⟨hnot, hguard, hord⟩ := drawOk_spec hdok hao
    have hdi : dstOf dl i = ao.dst := hdst i ao hao
    have hnames : ∀ t ∈ ao.names, (TM L ops.size).get t = (TM (fun _ => true) i).get t := by
      intro t ht
      have h1 : (TM L ops.size).get t = (TM L i).get t := by
        rw [← hTM, ← hTM]
        refine tm_tail ops.size (by omega) (fun j hj1 hj2 hd => ?_)
        by_cases c : j = i
        · subst c; exact hLi
        · obtain ⟨oj, aoj, _, _, haoj, _⟩ := hopget j hj2
          rw [hdst j aoj haoj] at hd
          have := (hord j aoj haoj).2 c t hd ht
          rw [Nat.max_eq_left (by omega), Nat.min_eq_right (by omega)] at this
          exact hbehind j hj2 this
      have h2 : (TM L i).get t = (TM (fun _ => true) i).get t := by
        rw [← hTM, ← hTM]
        refine tm_agree i (fun j hj hd => ?_)
        obtain ⟨oj, aoj, _, _, haoj, _⟩ := hopget j (by omega)
        rw [hdst j aoj haoj] at hd
        have := (hord j aoj haoj).2 (by omega) t hd ht
        rw [Nat.max_eq_right (by omega), Nat.min_eq_left (by omega)] at this
        exact hbefore j this
      exact h1.trans h2
    have hTi : ∀ t ∈ ao.names, VR φ1 (((TM (fun _ => true) i).get t).getD .undef) (a.tmps.getD t Go.undef) := by
      intro t ht; rw [← hnames t ht]; exact hT1 t
    have hTop : TR φ1 (TM (fun _ => true) i) a ao.op.tmps := fun t ht => hTi t (by simp [AOper.names, ht])
    have hwant := wanted_rel (tm := TM (fun _ => true) i) (a := a) hcomp (fun t ht => hTi t (by simp only [AOper.names, List.mem_append]; exact .inr ht))
    obtain ⟨e1, e2, htri, he1, he2, hstep⟩ := hsteps i _ (hdlget i ao hao)
    rw [hTM] at htri hstep
    have hmi : nEff (dl.take i) = cntP (effAt l) i := by rw [hnEff, Nat.min_eq_left (by omega)]
    have hmi1 : nEff (dl.take (i + 1)) = cntP (effAt l) i + (if effAt l i then 1 else 0) := by
      rw [hnEff, Nat.min_eq_left (by omega)]; rfl
    have heffi : effAt l i = isEff ao.op := by unfold effAt; rw [hao]
    have hsz' : (listed.setIfInBounds i true).size = ops.size := by simpa using hsz
    have hcl' : ∀ j o, (listed.setIfInBounds i true).getD j false = true → ops.toList[j]? = some o → ∀ e ∈ o.after.toList, Region.binds .any e = true → (listed.setIfInBounds i true).getD e.on false = true := by
      intro j oj hj hoj e he hb
      refine getD_set_true ?_
      by_cases c : j = i
      · subst c; rw [ho2] at hoj; cases hoj
        have := hedge2 e he hb; rw [← hL] at this; exact this
      · rw [getD_set_ne false (Ne.symm c)] at hj
        exact hcl j oj hj hoj e he hb
    have hcnt' : fuel + cntP (fun j => (listed.setIfInBounds i true).getD j false) ops.size = ops.size := by
      rw [hL']
      have := cnt_set (p := L) (q := fun j => if j = i then true else L j) hLi (by simp) (k := ops.size) (fun j _ hne => by simp [hne])
      rw [this, if_pos hilt]; omega
    have hcE : cntP (fun j => effAt l j && (fun j => if j = i then true else L j) j) ops.size = cntP (fun j => effAt l j && L j) ops.size + (if effAt l i then 1 else 0) := by
      cases hc : effAt l i with
      | true =>
        have := cnt_set (p := fun j => effAt l j && L j) (q := fun j => effAt l j && (fun j => if j = i then true else L j) j) (i := i) (by simp [hLi]) (by simp [hc]) (k := ops.size) (fun j _ hne => by simp [hne])
        rw [this, if_pos hilt]; rfl
      | false =>
        have := cnt_same (p := fun j => effAt l j && L j) (q := fun j => effAt l j && (fun j => if j = i then true else L j) j) (i := i) (k := ops.size) (by simp [hc]) (fun j _ hne => by simp [hne])
        rw [this]; rfl
    have hTM' : ∀ t, (TM (fun j => if j = i then true else L j) ops.size).get t = (if ao.dst = some t then some (valOf tr i) else (TM L ops.size).get t) := by
      intro t
      by_cases c : ao.dst = some t
      · rw [if_pos c]
        have htn : t ∈ ao.names := by simp [AOper.names, c]
        have h1 : (TM (fun j => if j = i then true else L j) ops.size).get t = (TM (fun j => if j = i then true else L j) (i + 1)).get t := by
          rw [← hTM, ← hTM]
          refine tm_tail ops.size (by omega) (fun j hj1 hj2 hd => ?_)
          have cj : j ≠ i := by omega
          obtain ⟨oj, aoj, _, _, haoj, _⟩ := hopget j hj2
          rw [hdst j aoj haoj] at hd
          have := (hord j aoj haoj).2 cj t hd htn
          rw [Nat.max_eq_left (by omega), Nat.min_eq_right (by omega)] at this
          simp only [cj, if_false]
          exact hbehind j hj2 this
        rw [h1, ← hTM, tmOf]
        simp only [if_true]
        rw [putD_get, hdi, if_pos c]
      · rw [if_neg c, ← hTM, ← hTM]
        refine tm_agree ops.size (fun j hj hd => ?_)
        by_cases cj : j = i
        · subst cj; rw [hdi] at hd; exact (c hd).elim
        · simp [cj]
    have close : ∀ (φ2 : Phi) (x : Value) (w2 : World) (dfs : List Deferred) (ee : Dfs × St), φ1.le φ2 → E[cntP (fun j => effAt l j && L j) ops.size + (if effAt l i then 1 else 0)]? = some ee →
        Rel G B ⟨w0.P, w0.w, XL (fun j => if j = i then true else L j)⟩ φ2 ee.2 w2 → VR φ2 (valOf tr i) x → DR P φ2 ee.1 dfs →
        wpAnyIn (fw ro) 0 P .any ops (fun e a' w' => e = .normal ∧ ∃ φ', φ.le φ' ∧ Rel G B w0 φ' (lastSt σh es) w' ∧ FR P n φ' fr2 a') fuel (listed.setIfInBounds i true) (({ a with defers := dfs } : Act).put o'.dst x) w2 := by
      intro φ2 x w2 dfs ee hle2 hee hR2 hvx hdd
      refine ih _ _ w2 hsz' hcl' hcnt' ?_
      have hgd : ∀ j, (listed.setIfInBounds i true).getD j false = (if j = i then true else L j) := fun j => congrFun hL' j
      simp only [hgd]
      refine ⟨φ2, ee, hle1.trans hle2, by rw [hcE]; exact hee, hR2, ?_, ?_, fun t => ?_⟩
      · cases o'.dst <;> exact hdd
      · cases hod : o'.dst <;> simp [Act.put, hsz1]
      · rw [hTM' t, hcdst]
        cases hod : o'.dst with
        | none => simp only [Act.put]; simpa using VR.mono hle2 _ _ (hT1 t)
        | some d =>
          have hdlt : d < a.tmps.size := Nat.lt_of_lt_of_le (hcok d hod) hsz1
          simp only [Act.put]
          by_cases c : d = t
          · subst c
            have : (a.tmps.setIfInBounds d x).getD d Go.undef = x := by simp [Array.getD, hdlt]
            rw [this]; simpa using hvx
          · have : (a.tmps.setIfInBounds d x).getD t Go.undef = a.tmps.getD t Go.undef := by
              rw [Array.getD_eq_getD_getElem?, Array.getD_eq_getD_getElem?, Array.getElem?_setIfInBounds_ne c]
            rw [this]
            have hne : ¬ (some d = some t) := by simpa using c
            rw [if_neg hne]; exact VR.mono hle2 _ _ (hT1 t)
    have hXL : ∀ x, isAlloc ao.op = false → XL (fun j => if j = i then true else L j) x → XL L x := by
      rintro x hna (hx | ⟨j, aoj, hj, haoj, ha, rfl⟩)
      · exact .inl hx
      · refine .inr ⟨j, aoj, ?_, haoj, ha, rfl⟩
        by_cases c : j = i
        · subst c; simp at hj
        · simpa [c] using hj
    have hlo : loOf Bf l i ≤ cntP (fun j => effAt l j && L j) ops.size := by
      unfold loOf; rw [hN]
      refine cnt_mono (fun j hj h => ?_)
      simp only [Bool.and_eq_true] at h ⊢
      exact ⟨h.1, hbefore j h.2⟩
    have hhi : cntP (fun j => effAt l j && L j) ops.size ≤ hiOf Bf l i := by
      unfold hiOf; rw [hN]
      refine cnt_mono (fun j hj h => ?_)
      simp only [Bool.and_eq_true, Bool.not_eq_true'] at h ⊢
      refine ⟨h.1, ?_⟩
      cases hb : (Bf.getD j 0).testBit i with
      | false => rfl
      | true => have := hbehind j hj hb; rw [h.2] at this; cases this
    have heffEq : isEff ao.op = true → cntP (fun j => effAt l j && L j) ops.size = cntP (effAt l) i := by
      intro hE
      refine cnt_prefix (by omega) (fun j hj => ?_)
      obtain ⟨oj, aoj, _, _, haoj, _⟩ := hopget j hj
      have hej : effAt l j = isEff aoj.op := by unfold effAt; rw [haoj]
      cases hc : effAt l j with
      | false => simp
      | true =>
        rw [hej] at hc
        simp only [Bool.true_and]
        by_cases c : j < i
        · have := (hord j aoj haoj).1 hE hc c
          rw [hbefore j this]; simp [c]
        · by_cases c' : j = i
          · subst c'; rw [hLi]; simp
          · obtain ⟨_, _, hord'⟩ := drawOk_spec hdok haoj
            have := (hord' i ao hao).1 hc hE (by omega)
            rw [hbehind j hj this]; simp [c]
    unfold wpOpIn
    rw [ho]
    simp only
    rw [hwant]
    unfold StepOk at hstep
    simp only at hstep
    by_cases hw : wantedA ao.guard (TM (fun _ => true) i) = true
    · rw [if_pos hw] at hstep ⊢
      by_cases ha : isAlloc ao.op = true
      · rw [if_pos ha] at hstep
        obtain ⟨hv, hee⟩ := hstep
        have hE : isEff ao.op = false := by simp [isEff, ha]
        cases hop : ao.op with
        | alloc z =>
          obtain ⟨_, c2⟩ := checkD_spec dl σ.next tr hchk i _ _ _ (hdlget i ao hao) htri
          have hobj := checkH_spec _ 0 (c2 z hop) _ e he (by simpa using hhi)
          have hφ : φ1 (Hh i) = none := (hR1.pend (Hh i) (.inr ⟨i, ao, hLi, hao, ha, rfl⟩)).1
          rw [hop] at hcop
          obtain ⟨t, hot, hz⟩ : ∃ t, o'.op = .alloc t ∧ zeroC P t = some z := compOp_alloc hcop
          obtain ⟨X, hX, hr, hs, hXs⟩ := zeroC_spec hz
          have hrev := hR1.reveal (X' := XL (fun j => if j = i then true else L j)) (zs := X.cells.toList) (C := X.cells) (E := t) hobj hφ (hr φ1) hXs (fun k hk => by rw [Nat.mod_eq_of_lt (by simp; omega)]; simp) (by
            rintro x (hx | ⟨j, aoj, hj, haoj, haj, rfl⟩)
            · refine ⟨.inl hx, ?_⟩
              have := (hR.pend x hx).2
              omega
            · have cj : j ≠ i := by rintro rfl; simp at hj
              refine ⟨.inr ⟨j, aoj, by simpa [cj] using hj, haoj, haj, rfl⟩, ?_⟩
              simp only [Hh]
              rcases Nat.lt_or_gt_of_ne cj with c | c
              · have := nAlloc_lt (hdlget j aoj haoj) haj c; omega
              · have := nAlloc_lt (hdlget i ao hao) ha c; omega)
          refine Oper.wpI_value (hnd.imp (fun h => h) (fun h => h _ hmemo)) (x := .pointer (some ⟨w.heap.size, 0, none⟩)) (w' := w.alloc (.cells X.cells t)) ?_ ?_
          · simp [execOp, hot, Instr.alloc, hX, newVar, newRow]
          · refine close _ _ _ a.defers e hrev.2 (by rw [heffi, hE]; simpa using he) hrev.1 ?_ (DR.mono hrev.2 hD1)
            rw [hv]
            exact ⟨w.heap.size, z.length, Phi.upd_same _ _ _, rfl⟩
        | _ => rw [hop] at ha; cases ha
      · rw [if_neg ha] at hstep
        have ha' : isAlloc ao.op = false := by simpa using ha
        have hev : ∃ ee : Dfs × St, evalOp call ao.op (TM (fun _ => true) i) e.1 e.2 = some (valOf tr i, ee.1, ee.2) ∧ E[cntP (fun j => effAt l j && L j) ops.size + (if effAt l i then 1 else 0)]? = some ee := by
          cases hE : isEff ao.op with
          | true =>
            rw [hmi] at he1
            have hm := heffEq hE
            rw [hm] at he
            rw [he] at he1; cases he1
            rw [hmi1] at he2
            exact ⟨e2, hstep, by rw [hm]; exact he2⟩
          | false =>
            rw [heffi, hE]
            refine ⟨e, ?_, by simpa using he⟩
            obtain ⟨q1, q2⟩ := evalOp_noeff hstep hE ha'
            unfold evalOp at hstep ⊢
            by_cases hp : isPure ao.op = true
            · rw [if_pos hp] at hstep ⊢
              split at hstep
              · rename_i v hv
                simp only [Option.some.injEq, Prod.mk.injEq] at hstep ⊢
                simp [hstep.1]
              · cases hstep
            · rw [if_neg hp] at hstep ⊢
              have hrd : isRead ao.op = true := by
                have hp' : isPure ao.op = false := by simpa using hp
                simpa [isEff, hp', ha'] using hE
              rw [if_pos hrd]
              obtain ⟨c1, _⟩ := checkD_spec dl σ.next tr hchk i _ _ _ (hdlget i ao hao) htri
              have := checkR_spec _ 0 (c1 hrd hw) _ e he (by simpa using hlo) (by simpa using hhi)
              rw [this]
        obtain ⟨ee, hev, hee⟩ := hev
        refine evalOp_sound (w0 := ⟨w0.P, w0.w, XL L⟩) hcall hcop hev hGP hTop hD1 hP (hnd.imp (fun h => h) (fun h => h _ hmemo)) hR1 ?_
        intro φ2 x w2 dfs hle2 hR2 hvx hdd
        refine close φ2 x w2 dfs ee hle2 hee (hR2.weaken rfl rfl (fun y hy => hR2.pend y (hXL y ha' hy))) hvx hdd
    · rw [if_neg hw] at hstep ⊢
      obtain ⟨ha, hv, hee⟩ := hstep
      have hex : ∃ ee : Dfs × St, e = ee ∧ E[cntP (fun j => effAt l j && L j) ops.size + (if effAt l i then 1 else 0)]? = some ee := by
        cases hE : isEff ao.op with
        | true =>
          rw [hmi] at he1
          have hm := heffEq hE
          rw [hm] at he
          rw [he] at he1; cases he1
          rw [hmi1, hee] at he2
          exact ⟨e, rfl, by rw [hm]; exact he2⟩
        | false => rw [heffi, hE]; exact ⟨e, rfl, by simpa using he⟩
      obtain ⟨_, rfl, hex⟩ := hex
      have hvx : VR φ1 (valOf tr i) Go.undef := by rw [hv]; exact VR.undef
      exact ⟨fun _ _ => trivial, close φ1 Go.undef w a.defers e (Phi.le.refl _) hex (hR1.weaken rfl rfl (fun y hy => hR1.pend y (hXL y ha hy))) hvx hD1⟩
  have main : ∀ (fuel : Nat) (listed : Array Bool) (a : Act) (w : World), listed.size = ops.size →
      (∀ j o, listed.getD j false = true → ops.toList[j]? = some o → ∀ e ∈ o.after.toList, Region.binds .any e = true → listed.getD e.on false = true) →
      fuel + cntP (fun j => listed.getD j false) ops.size = ops.size →
      (∃ φ1 e, φ.le φ1 ∧ E[cntP (fun j => effAt l j && listed.getD j false) ops.size]? = some e ∧ Rel G B ⟨w0.P, w0.w, XL (fun j => listed.getD j false)⟩ φ1 e.2 w ∧ DR P φ1 e.1 a.defers ∧ n ≤ a.tmps.size ∧
        ∀ t, VR φ1 (((TM (fun j => listed.getD j false) ops.size).get t).getD .undef) (a.tmps.getD t Go.undef)) →
      wpAnyIn (fw ro) 0 P .any ops (fun e a' w' => e = .normal ∧ ∃ φ', φ.le φ' ∧ Rel G B w0 φ' (lastSt σh es) w' ∧ FR P n φ' fr2 a') fuel listed a w := by
    intro fuel
    induction fuel with
    | zero =>
      intro listed a w hsz hcl hcnt hinv
      have hall : ∀ j, j < ops.size → listed.getD j false = true := cnt_full (by omega)
      refine ⟨?_, ?_⟩
      · rw [List.eq_nil_iff_forall_not_mem]
        intro j hj
        obtain ⟨h0, o, ho, _⟩ := mem_ready.1 hj
        have hjlt : j < ops.size := (Array.getElem?_eq_some_iff.1 ho).1
        have h1 := hall j hjlt
        simp [Array.getD, hsz, hjlt] at h0 h1
        rw [h0] at h1; cases h1
      · exact ⟨rfl, hfin _ a w hall hinv⟩
    | succ fuel ih =>
      intro listed a w hsz hcl hcnt hinv
      refine ⟨fun hnil => ?_, fun i hi => ?_⟩
      · have hall : ∀ j, j < ops.size → listed.getD j false = true := by
          intro j
          induction j using Nat.strongRecOn with
          | _ j ihj =>
            intro hj
            cases hc : listed.getD j false with
            | true => rfl
            | false =>
              obtain ⟨o, ao, ho, ho', _, _⟩ := hopget j hj
              have hmem : j ∈ Region.ready .any ops listed := by
                refine mem_ready.2 ⟨?_, o, ho, fun e he hb => ?_⟩
                · simp [Array.getD, hsz, hj] at hc ⊢; exact hc
                · have := edgesOk_spec ops.toList 0 hedges j o ho' e (by simpa using he) hb
                  exact ihj e.on (by omega) (by omega)
              rw [hnil] at hmem; cases hmem
        exact ⟨rfl, hfin _ a w hall hinv⟩
      · exact step fuel listed a w hsz hcl hcnt hinv i hi ih
  refine main ops.size _ a w.drew (by simp) ?_ ?_ ?_
  · intro j o hj
    simp [Array.getD] at hj
  · have : cntP (fun j => (Array.replicate ops.size false).getD j false) ops.size = 0 := by
      have : ∀ k, cntP (fun j => (Array.replicate ops.size false).getD j false) k = 0 := by
        intro k
        induction k with
        | zero => rfl
        | succ k ih => simp only [cntP, ih]; simp [Array.getD]
      exact this _
    omega
  · have hL0 : ∀ j, (Array.replicate ops.size false).getD j false = false := by intro j; simp [Array.getD]
    have hc0 : cntP (fun j => effAt l j && (Array.replicate ops.size false).getD j false) ops.size = 0 := by
      have : ∀ k, cntP (fun j => effAt l j && (Array.replicate ops.size false).getD j false) k = 0 := by
        intro k
        induction k with
        | zero => rfl
        | succ k ih => simp only [cntP]; rw [ih]; simp [hL0]
      exact this _
    refine ⟨φ, (fr.defers, σh), Phi.le.refl _, by rw [hc0, ← hE]; rfl, hRh.drew.weaken rfl rfl ?_, hF.ds, hF.size, ?_⟩
    · rintro x (hx | ⟨j, ao, _, hj, ha, rfl⟩)
      · obtain ⟨p, q⟩ := hR.pend x hx; exact ⟨p, by rw [hnext]; omega⟩
      · have hlt := nAlloc_lt (hdlget j ao hj) ha (i := dl.length) (by
          have : j < l.length := by
            rcases Nat.lt_or_ge j l.length with k | k
            · exact k
            · rw [List.getElem?_eq_none k] at hj; cases hj
          omega)
        rw [List.take_length] at hlt
        refine ⟨?_, by rw [hnext]; simp only [Hh]; omega⟩
        cases hc : φ (Hh j) with
        | none => rfl
        | some y => obtain ⟨b, m⟩ := y; have := (hR.dom _ _ _ hc).1; simp only [Hh] at this; omega
    · intro t
      have htt : (TM (fun j => (Array.replicate ops.size false).getD j false) ops.size).get t = fr.tmps.get t := by
        rw [← hTM]
        have := tm_tail (tm0 := fr.tmps) (dst := dstOf dl) (val := valOf tr) (L := fun j => (Array.replicate ops.size false).getD j false) (t := t) (i := 0) ops.size (by omega) (fun j _ _ _ => hL0 j)
        rw [this]; rfl
      rw [htt]; exact hF.ts t
end AM
namespace AM
open Go Go.RowKit Go.Conc.Locks
set_option linter.unusedVariables false
set_option linter.unusedSimpArgs false
variable {P : Program} {φ : Phi} {w : World} {w0 : Base} {σ σ' : St} {G B : Nat}

theorem Rel.store1 (h : Rel G B w0 φ σ w) {id off b n : Nat} {u v : V} {x : Value} (hc : σ.cell id off = some u) (hs : σ.store id off [v] = some σ') (ha : φ id = some (b, n)) (hv : VR φ v x) (hx : x.oneCell' = true) :
    w.frozen? ⟨b, off, none⟩ = false ∧ Rel G B w0 φ σ' (w.setCell ⟨b, off, none⟩ x) := by
  obtain ⟨y, hy, _⟩ := h.cell hc ha
  obtain ⟨w', hrun, hR⟩ := h.store (P := (default : Program)) hs ha (LR.cons hv LR.nil)
  have h0 : (⟨b, off, none⟩ : Addr).add 0 = ⟨b, off, none⟩ := add_none b off 0
  simp only [storeCells, h0, Sem.run_bind, Sem.run_pure] at hrun
  rw [run_store (default : Program) w ⟨b, off, none⟩ x .plain hx, hy] at hrun
  cases hf : w.frozen? ⟨b, off, none⟩ with
  | true => rw [hf] at hrun; simp [Result.andThen] at hrun
  | false =>
    rw [hf] at hrun
    simp [Result.andThen] at hrun
    subst hrun
    exact ⟨rfl, hR⟩

theorem LR.one {v : V} {l : List Value} (h : LR φ [v] l) : ∃ x, l = [x] ∧ VR φ v x := by
  obtain ⟨x, s, rfl, h1, h2⟩ := h; cases h2; exact ⟨x, rfl, h1⟩
theorem LR.two {u v : V} {l : List Value} (h : LR φ [u, v] l) : ∃ x y, l = [x, y] ∧ VR φ u x ∧ VR φ v y := by
  obtain ⟨x, s, rfl, h1, h2⟩ := h
  obtain ⟨y, rfl, h3⟩ := LR.one h2
  exact ⟨x, y, rfl, h1, h3⟩

theorem addr_ptr {id off : Nat} {x : Value} (h : VR φ (.ptr (some (id, off))) x) : ∃ b n, φ id = some (b, n) ∧ x = .pointer (some ⟨b, off, none⟩) := h

theorem undef_tuple : VR φ (.tuple []) (.tuple #[]) := ⟨#[], rfl, rfl⟩

theorem lock_ok {L : MuLink} (H : MuLib P L) {xs : List V} {v : V} (h : extCall .lock xs σ = some (v, σ')) : Plain1 P G L.lock xs σ v σ' := by
  intro B w0 φ w args hP hR hL
  unfold extCall at h
  split at h
  · rename_i id off he
    split at h
    · rename_i hc
      obtain ⟨⟨⟩⟩ := he
      cases hst : σ.store id off [.int .i32 1] with
      | none => rw [hst] at h; simp at h
      | some σ2 =>
        rw [hst] at h; simp at h; obtain ⟨rfl, rfl⟩ := h
        obtain ⟨x, hx, hp⟩ := LR.one hL
        obtain ⟨b, n, hb, rfl⟩ := addr_ptr hp
        obtain ⟨y, hy, hvy⟩ := hR.cell hc hb
        cases hvy
        obtain ⟨hz, hR'⟩ := hR.store1 (x := .int .i32 1) hc hst hb rfl rfl
        have harg : args = #[.pointer (some ⟨b, off, none⟩)] := by cases args; simpa using hx
        subst harg
        left
        refine ⟨MuLone.run_callFunc_enter (P := P) H.f_lock (by kernel_rfl) rfl _ w, ?_⟩
        refine (MuLone.lock_free H ⟨b, off, none⟩ w hy hz).mono ?_
        rintro e w' ⟨rfl, rfl⟩
        exact ⟨φ, _, rfl, Phi.le.refl _, hR', undef_tuple⟩
    · cases h
  all_goals (first | contradiction | cases h)

theorem unlock_ok {L : MuLink} (H : MuLib P L) {xs : List V} {v : V} (h : extCall .unlock xs σ = some (v, σ')) : Plain1 P G L.unlock xs σ v σ' ∧ Def1 P G L.unlock xs σ v σ' := by
  have key : ∀ B w0 φ w (args : Array Value), Rel G B w0 φ σ w → LR φ xs args.toList → ∃ a, args = #[.pointer (some a)] ∧ w.cell? a = some (.int .i32 1) ∧ w.frozen? a = false ∧ v = .tuple [] ∧ Rel G B w0 φ σ' (w.setCell a (.int .i32 0)) := by
    intro B w0 φ w args hR hL
    unfold extCall at h
    split at h
    · contradiction
    · rename_i id off he
      split at h
      · rename_i hc
        obtain ⟨⟨⟩⟩ := he
        cases hst : σ.store id off [.int .i32 0] with
        | none => rw [hst] at h; simp at h
        | some σ2 =>
          rw [hst] at h; simp at h; obtain ⟨rfl, rfl⟩ := h
          obtain ⟨x, hx, hp⟩ := LR.one hL
          obtain ⟨b, n, hb, rfl⟩ := addr_ptr hp
          obtain ⟨y, hy, hvy⟩ := hR.cell hc hb
          cases hvy
          obtain ⟨hz, hR'⟩ := hR.store1 (x := .int .i32 0) hc hst hb rfl rfl
          exact ⟨_, by cases args; simpa using hx, hy, hz, rfl, hR'⟩
      · cases h
    all_goals (first | contradiction | cases h)
  refine ⟨?_, fun args w => MuLone.run_callFunc_enter (P := P) H.f_unlock (by kernel_rfl) rfl _ w, ?_⟩
  · intro B w0 φ w args hP hR hL
    obtain ⟨a, rfl, hc, hz, rfl, hR'⟩ := key B w0 φ w args hR hL
    left
    refine ⟨MuLone.run_callFunc_enter (P := P) H.f_unlock (by kernel_rfl) rfl _ w, ?_⟩
    refine (MuLone.unlock_held H a w hc hz).mono ?_
    rintro e w' ⟨rfl, rfl⟩
    exact ⟨φ, _, rfl, Phi.le.refl _, hR', undef_tuple⟩
  · intro B w0 φ w args hP hR hL
    obtain ⟨a, rfl, hc, hz, rfl, hR'⟩ := key B w0 φ w args hR hL
    refine (MuLone.unlock_deferred H a .returning w hc hz).mono ?_
    rintro e u w' ⟨rfl, rfl, rfl⟩
    exact ⟨rfl, φ, _, rfl, Phi.le.refl _, hR', undef_tuple⟩

theorem loadU32_ok {g : FuncId} {fn : Func} (hf : P.funcs[g]? = some fn) (hname : (fn.name == "runtime.NumGoroutine") = false) (hb : fn.body.isNone = true) (hn : Extern.findNext fn = none)
    (he : Extern.find fn = some (Extern.Atomic.loadT (.int .u32))) {xs : List V} {v : V} (h : extCall .loadU32 xs σ = some (v, σ')) : Plain1 P G g xs σ v σ' := by
  intro B w0 φ w args hP hR hL
  unfold extCall at h
  split at h
  · contradiction
  · contradiction
  · rename_i id off hx
    split at h
    · rename_i k hc
      obtain ⟨⟨⟩⟩ := hx
      simp at h; obtain ⟨rfl, rfl⟩ := h
      obtain ⟨x, hx, hp⟩ := LR.one hL
      obtain ⟨b, n, hb2, rfl⟩ := addr_ptr hp
      obtain ⟨y, hy, hvy⟩ := hR.cell hc hb2
      cases hvy
      have harg : args = #[.pointer (some ⟨b, off, none⟩)] := by cases args; simpa using hx
      subst harg
      exact .inr ⟨_, w, φ, run_call_load hf hname hb hn .u32 he hy, Phi.le.refl _, hR, rfl⟩
    · cases h
  all_goals (first | contradiction | cases h)

theorem storeU32_ok {g : FuncId} {fn : Func} (hf : P.funcs[g]? = some fn) (hname : (fn.name == "runtime.NumGoroutine") = false) (hb : fn.body.isNone = true) (hn : Extern.findNext fn = none)
    (he : Extern.find fn = some Extern.Atomic.storeT) {xs : List V} {v : V} (h : extCall .storeU32 xs σ = some (v, σ')) : Plain1 P G g xs σ v σ' := by
  intro B w0 φ w args hP hR hL
  unfold extCall at h
  split at h
  · contradiction
  · contradiction
  · contradiction
  · rename_i id off m hx
    split at h
    · rename_i k hc
      obtain ⟨⟨⟩⟩ := hx
      cases hst : σ.store id off [.int .u32 m] with
      | none => rw [hst] at h; simp at h
      | some σ2 =>
        rw [hst] at h; simp at h; obtain ⟨rfl, rfl⟩ := h
        obtain ⟨x, y, hxy, hp, hq⟩ := LR.two hL
        cases hq
        obtain ⟨b, n, hb2, rfl⟩ := addr_ptr hp
        obtain ⟨y, hy, hvy⟩ := hR.cell hc hb2
        obtain ⟨hz, hR'⟩ := hR.store1 (x := .int .u32 m) hc hst hb2 rfl rfl
        have harg : args = #[.pointer (some ⟨b, off, none⟩), .int .u32 m] := by cases args; simpa using hxy
        subst harg
        exact .inr ⟨_, _, φ, run_call_store hf hname hb hn he hy hz, Phi.le.refl _, hR', undef_tuple⟩
    · cases h
  all_goals (first | contradiction | cases h)
section reflectlite
variable {g : FuncId} {fn : Func} {t e : TypeId}

theorem info_of {d : TypeDesc} (h : (P.info? t).map (·.desc) = some d) : ∃ i, P.info? t = some i ∧ i.desc = d := by
  cases hi : P.info? t with
  | none => rw [hi] at h; cases h
  | some i => rw [hi] at h; simp at h; exact ⟨i, rfl, h⟩

theorem under_run {d : TypeDesc} (h : (P.info? t).map (·.desc) = some d) (hn : ∀ a b, d ≠ .named a b) (w : World) : ∃ i, (Extern.Rtype.under t).run P w = .ok (t, i) w ∧ P.info? t = some i ∧ i.desc = d := by
  obtain ⟨i, hi, hd⟩ := info_of h
  refine ⟨i, ?_, hi, hd⟩
  have hti : (typeInfo t).run P w = .ok i w := by simp [typeInfo, program, Sem.run, hi, Result.andThen]
  simp only [Extern.Rtype.under, Sem.run_bind, hti, Result.andThen_ok]
  rw [hd]
  cases d <;> first | rfl | exact (hn _ _ rfl).elim

theorem method_eq (zero : Sem Value) (f : TypeId → Addr → Nat → Nat → Sem Value) (v : Value) : Extern.ReflectliteValue.method zero f #[v] = (do match ← Extern.ReflectliteValue.parts v with
    | none => zero
    | some (t, a, fl) => f t a fl (fl % 32)) := rfl
theorem partsAny_eq (h : Value) (a : Addr) : Extern.ReflectliteValue.partsAny (.agg #[h, .pointer (some a), .int .u64 151]) = (do pure (some (← Extern.Rtype.ofHandle h, a, 151))) := rfl
def swapBody (pkg : String) (noSlice : Nat → Sem Value) (t : TypeId) (s : Value) (n : Nat) : Option TypeId → Sem Value
  | some e => do
    let i ← typeInfo e
    let isString := (← Extern.Rtype.kind e) == 24
    let k : Nat :=
      if n == 0 then 1 else if n == 1 then 2
      else if i.hasPointers && i.bytes == 8 then 3
      else if i.hasPointers && isString then 4
      else if i.hasPointers then 9
      else match i.bytes with | 8 => 5 | 4 => 6 | 2 => 7 | 1 => 8 | _ => 9
    let h ← Extern.Rtype.handle e
    Extern.ReflectliteSwapper.literal pkg k (if k ≤ 2 then #[] else #[s, h])
  | none => do noSlice (← Extern.Rtype.kind t)
theorem swapper_eq (pkg : String) (noSlice : Nat → Sem Value) (t : TypeId) (ad : Option Addr) (n c : Nat) : Extern.ReflectliteSwapper.swapper pkg noSlice #[.iface t (.slice ad n c)] = (do swapBody pkg noSlice t (.slice ad n c) n (← Extern.Rtype.elem? t)) := by
  show (do let q ← Extern.Rtype.elem? t; _) = _
  congr 1
  funext q
  cases q <;> rfl
theorem swap_eq (i j : Int) (a : Addr) (n c : Nat) (h : Value) : Extern.ReflectliteSwapper.swap true #[.int .i64 i, .int .i64 j, .slice (some a) n c, h] = (do
    if i < 0 || i ≥ n then boundsPanic .i64 i n .index
    if j < 0 || j ≥ n then boundsPanic .i64 j n .index
    Extern.ReflectliteSwapper.exchange (← Extern.Rtype.ofHandle h) a i.toNat j.toNat) := rfl

theorem kind_slice (h : (P.info? t).map (·.desc) = some (.slice e)) (w : World) : (Extern.Rtype.kind t).run P w = .ok 23 w := by
  obtain ⟨i, hu, hi, hd⟩ := under_run h (by simp) w
  simp only [Extern.Rtype.kind, Sem.run_bind, hu, Result.andThen_ok, hd]
  rfl

theorem valueOf_ok (hf : P.funcs[g]? = some fn) (hname : (fn.name == "runtime.NumGoroutine") = false) (hb : fn.body.isNone = true) (hn : Extern.findNext fn = none)
    (he : Extern.find fn = some (fun args => Extern.ReflectliteValue.unpack (args.getD 0 (.tuple #[])))) (hd : (P.info? t).map (·.desc) = some (.slice e)) {Gs : Nat} (hGs : Gs = P.globals.size) (hG : P.globals.size < G) {xs : List V} {v : V}
    (h : extCall (.valueOf t Gs) xs σ = some (v, σ')) : Plain1 P G g xs σ v σ' := by
  subst hGs
  intro B w0 φ w args hP hR hL
  unfold extCall at h
  split at h
  all_goals (first | (cases h; done) | skip)
  all_goals (rename_i heq; cases heq)
  rename_i t' a n z
  split at h
  · rename_i ht
    subst ht
    cases h
    obtain ⟨x, hx, hv⟩ := LR.one hL
    obtain ⟨y, rfl, hy⟩ := hv
    have harg : args = #[.iface t' y] := by cases args; simpa using hx
    subst harg
    have hyc := VR.cells hy
    have hnew := hR.newCells [.slice a n z] y.cells.toList [] t' hyc
    simp only [List.append_nil, Array.toArray_toList] at hnew
    obtain ⟨n0, hn0⟩ := (hR.glob P.globals.size hG).2
    refine .inr ⟨.agg #[.pointer (some ⟨P.globals.size, t', none⟩), .pointer (some ⟨w.heap.size, 0, none⟩), .int .u64 151], _, _, ?_, hnew.2, hnew.1, ?_⟩
    · rw [run_callFunc_extern hf hname hb hn he]
      have hk := kind_slice hd (w.alloc (.cells y.cells t'))
      simp [Extern.ReflectliteValue.unpack, Extern.ReflectliteValue.mk, newVar, newRow, Extern.Rtype.handle, typeHandle, program, Sem.run, hk, Result.andThen, Extern.ReflectliteValue.flagIndir]
    · exact ⟨_, rfl, LR.cons ⟨_, _, hnew.2 _ _ hn0, rfl⟩ (LR.cons ⟨_, _, Phi.upd_same _ _ _, rfl⟩ (LR.cons rfl LR.nil))⟩
  · cases h

theorem vlen_ok (hf : P.funcs[g]? = some fn) (hname : (fn.name == "runtime.NumGoroutine") = false) (hb : fn.body.isNone = true) (hn : Extern.findNext fn = none)
    (he : Extern.find fn = some (Extern.ReflectliteValue.method (Extern.ReflectliteValue.valueError "reflectlite.Value.Len" 0) Extern.ReflectliteValue.len)) (hd : (P.info? t).map (·.desc) = some (.slice e)) (hp : P.packed t = false) (hund : P.underlying t = some (.slice e)) {Gs : Nat} (hGs : Gs = P.globals.size) (hG : P.globals.size < G) {xs : List V} {v : V}
    (h : extCall (.vlen t Gs) xs σ = some (v, σ')) : Plain1 P G g xs σ v σ' := by
  subst hGs
  intro B w0 φ w args hP hR hL
  unfold extCall at h
  split at h
  all_goals (first | (cases h; done) | skip)
  all_goals (rename_i heq; cases heq)
  rename_i g' t' id off
  split at h
  · rename_i hc
    obtain ⟨rfl, rfl⟩ := hc
    split at h
    · rename_i q n z hcell
      cases h
      obtain ⟨x, hx, hv⟩ := LR.one hL
      obtain ⟨C, rfl, hC⟩ := hv
      obtain ⟨x1, s1, hs1, h1, hr1⟩ := hC
      obtain ⟨x2, s2, hs2, h2, hr2⟩ := hr1
      obtain ⟨x3, hs3, h3⟩ := LR.one hr2
      subst hs2; subst hs3
      obtain ⟨b1, n1, hb1, rfl⟩ := h1
      obtain ⟨b2, n2, hb2, rfl⟩ := h2
      have h3 : x3 = .int .u64 151 := h3
      subst h3
      obtain ⟨n0, hn0⟩ := (hR.glob P.globals.size hG).2
      rw [hn0] at hb1; cases hb1
      have hC : C = #[.pointer (some ⟨P.globals.size, t', none⟩), .pointer (some ⟨b2, off, none⟩), .int .u64 151] := by cases C; simpa using hs1
      subst hC
      have harg : args = #[.agg #[.pointer (some ⟨P.globals.size, t', none⟩), .pointer (some ⟨b2, off, none⟩), .int .u64 151]] := by cases args; simpa using hx
      subst harg
      obtain ⟨y, hy, hvy⟩ := hR.cell hcell hb2
      have hsl : ∃ ad c, y = .slice ad n c := by
        cases q with
        | none => obtain ⟨h0, hh⟩ := hvy; subst h0; exact ⟨_, _, hh⟩
        | some q => obtain ⟨q1, q2⟩ := q; obtain ⟨b0, n0, o0, c0, _, hh, _⟩ := hvy; exact ⟨_, _, hh⟩
      obtain ⟨ad, c, rfl⟩ := hsl
      refine .inr ⟨.int .i64 n, w, φ, ?_, Phi.le.refl _, hR, rfl⟩
      rw [run_callFunc_extern hf hname hb hn he]
      obtain ⟨i, hu, hi, hdi⟩ := under_run hd (by simp) w
      have hagg : (isAgg t').run P w = .ok false w := by simp [isAgg, run_underlying' hund]
      have hld : (loadVar t' ⟨b2, off, none⟩).run P w = .ok (.slice ad n c) w := by
        simp only [loadVar, Sem.run_bind, hagg, Result.andThen_ok, Bool.false_eq_true, if_false, run_load, hy]
      have hpart : (Extern.ReflectliteValue.parts (.agg #[.pointer (some ⟨P.globals.size, t', none⟩), .pointer (some ⟨b2, off, none⟩), .int .u64 151])).run P w = .ok (some (t', ⟨b2, off, none⟩, 151)) w := by
        have hoh : (Extern.Rtype.ofHandle (.pointer (some ⟨P.globals.size, t', none⟩))).run P w = .ok t' w := by
          simp [Extern.Rtype.ofHandle, handleType, program, Sem.run, Result.andThen]
        have hpa : (Extern.ReflectliteValue.partsAny (.agg #[.pointer (some ⟨P.globals.size, t', none⟩), .pointer (some ⟨b2, off, none⟩), .int .u64 151])).run P w = .ok (some (t', ⟨b2, off, none⟩, 151)) w := by
          rw [partsAny_eq]
          simp only [Sem.run_bind, hoh, Result.andThen_ok, Sem.run_pure]
        have hnp : (Extern.Rtype.noPack "a Value asked or handed on" t').run P w = .ok () w := by
          simp only [Extern.Rtype.noPack, Sem.run_bind, program, Sem.run, Result.andThen_ok, hp, Bool.false_eq_true, if_false]
          rfl
        unfold Extern.ReflectliteValue.parts
        simp only [Sem.run_bind, hpa, Result.andThen_ok, hnp, Sem.run_pure]
      have hlen : (Extern.ReflectliteValue.len t' ⟨b2, off, none⟩ 151 23).run P w = .ok (.int .i64 n) w := by
        have hc : (!([17, 18, 21, 23, 24].contains 23)) = false := by decide
        have hb : (Builtin.len_ #[t'] 0 #[.slice ad n c]).run P w = .ok (.int .i64 n) w := by
          simp [Builtin.len_, run_underlying' hund, goInt]
        simp only [Extern.ReflectliteValue.len, hc, Bool.false_eq_true, if_false, Sem.run_bind, Sem.run_pure, Result.andThen_ok, hu, hdi, hld, hb]
      rw [method_eq]
      simp only [Sem.run_bind, hpart, Result.andThen_ok]
      rw [show (151 % 32 : Nat) = 23 from rfl, hlen]
      rfl
    · cases h
  · cases h

theorem swapper_ok {f1 f2 f5 : FuncId} (hf : P.funcs[g]? = some fn) (hname : (fn.name == "runtime.NumGoroutine") = false) (hb : fn.body.isNone = true) (hn : Extern.findNext fn = none)
    (he : Extern.find fn = some (Extern.ReflectliteSwapper.swapper "internal/reflectlite" (Extern.ReflectliteValue.valueError "Swapper"))) (hd : (P.info? t).map (·.desc) = some (.slice e)) (hde : (P.info? e).map (fun i => (i.desc, i.hasPointers, i.bytes)) = some (.int .u64, false, 8))
    (h1 : P.funcs.findIdx? (fun f => f.name == "internal/reflectlite.Swapper$1") = some f1) (h2 : P.funcs.findIdx? (fun f => f.name == "internal/reflectlite.Swapper$2") = some f2) (h5 : P.funcs.findIdx? (fun f => f.name == "internal/reflectlite.Swapper$5") = some f5)
    {Gs : Nat} (hGs : Gs = P.globals.size) (hG : P.globals.size < G) {xs : List V} {v : V}
    (h : extCall (.swapper t e Gs f1 f2 f5) xs σ = some (v, σ')) : Plain1 P G g xs σ v σ' := by
  subst hGs
  intro B w0 φ w args hP hR hL
  unfold extCall at h
  split at h
  all_goals (first | (cases h; done) | skip)
  all_goals (rename_i heq; cases heq)
  rename_i t' a n z
  split at h
  · rename_i ht
    subst ht
    cases h
    obtain ⟨x, hx, hv⟩ := LR.one hL
    obtain ⟨y, rfl, hy⟩ := hv
    have harg : args = #[.iface t' y] := by cases args; simpa using hx
    subst harg
    have hsl : ∃ ad c, y = .slice ad n c := by
      cases a with
      | none => obtain ⟨h0, hh⟩ := hy; subst h0; exact ⟨_, _, hh⟩
      | some q => obtain ⟨q1, q2⟩ := q; obtain ⟨b0, n0, o0, c0, _, hh, _⟩ := hy; exact ⟨_, _, hh⟩
    obtain ⟨ad, c, hyy⟩ := hsl
    obtain ⟨n0, hn0⟩ := (hR.glob P.globals.size hG).2
    obtain ⟨i, hu, hi, hdi⟩ := under_run hd (by simp) w
    obtain ⟨j, hj, hj1, hj2, hj3⟩ : ∃ j, P.info? e = some j ∧ j.desc = .int .u64 ∧ j.hasPointers = false ∧ j.bytes = 8 := by
      cases hj : P.info? e with
      | none => rw [hj] at hde; cases hde
      | some j => rw [hj] at hde; simp at hde; exact ⟨j, rfl, hde.1, hde.2.1, hde.2.2⟩
    obtain ⟨j', hu2, hi2, hdi2⟩ := under_run (P := P) (t := e) (d := .int .u64) (by rw [hj]; simp [hj1]) (by simp) w
    have hke : ∃ k, k ≠ 24 ∧ (Extern.Rtype.kind e).run P w = .ok k w := by
      simp only [Extern.Rtype.kind, Sem.run_bind, hu2, Result.andThen_ok, hdi2]
      by_cases c1 : j'.str == "uint"
      · exact ⟨7, by decide, by simp [c1]⟩
      · by_cases c2 : j'.str == "uintptr"
        · exact ⟨12, by decide, by simp [c1, c2]⟩
        · exact ⟨11, by decide, by simp [c1, c2]⟩
    obtain ⟨k, hk24, hk⟩ := hke
    have hel : (Extern.Rtype.elem? t').run P w = .ok (some e) w := by
      simp only [Extern.Rtype.elem?, Sem.run_bind, hu, Result.andThen_ok, hdi]
      rfl
    have hlit : ∀ (k : Nat) (f : FuncId) (bound : Array Value), P.funcs.findIdx? (fun f => f.name == "internal/reflectlite" ++ ".Swapper$" ++ toString k) = some f → (Extern.ReflectliteSwapper.literal "internal/reflectlite" k bound).run P w = .ok (.func (.func f) #[] bound) w := by
      intro k f bound hfi
      simp only [Extern.ReflectliteSwapper.literal, Sem.run_bind, program, Sem.run, Result.andThen_ok, hfi]
      rfl
    have hk24' : (k == 24) = false := by simpa using hk24
    have hte : (typeInfo e).run P w = .ok j w := by simp [typeInfo, program, Sem.run, hj, Result.andThen]
    have hrun : ∀ (kk : Nat) (f : FuncId), kk = (if n == 0 then 1 else if n == 1 then 2 else 5) → P.funcs.findIdx? (fun f => f.name == "internal/reflectlite" ++ ".Swapper$" ++ toString kk) = some f →
        (callFunc g #[.iface t' y]).run P w = .ok (.value (.func (.func f) #[] (if kk ≤ 2 then #[] else #[y, .pointer (some ⟨P.globals.size, e, none⟩)]))) w := by
      intro kk f hkk hfi
      rw [run_callFunc_extern hf hname hb hn he]
      have hl := hlit kk f (if kk ≤ 2 then #[] else #[y, .pointer (some ⟨P.globals.size, e, none⟩)]) hfi
      rw [hyy] at hl ⊢
      simp only [swapper_eq, swapBody, Sem.run_bind, hel, Result.andThen_ok, hte, hk, hk24', hj2, hj3, Bool.false_and, Bool.false_eq_true, if_false, Extern.Rtype.handle, typeHandle, program, Sem.run, ← hkk, Sem.run_pure]
      rw [hl]
      rfl
    by_cases c0 : n = 0
    · subst c0
      exact .inr ⟨_, w, φ, hrun 1 f1 rfl h1, Phi.le.refl _, hR, by simp; exact ⟨_, _, rfl, LR.nil, LR.nil⟩⟩
    · by_cases c1 : n = 1
      · subst c1
        exact .inr ⟨_, w, φ, hrun 2 f2 rfl h2, Phi.le.refl _, hR, by simp; exact ⟨_, _, rfl, LR.nil, LR.nil⟩⟩
      · refine .inr ⟨_, w, φ, hrun 5 f5 (by simp [c0, c1]) h5, Phi.le.refl _, hR, ?_⟩
        rw [if_neg c0, if_neg c1]
        exact ⟨_, _, rfl, LR.nil, LR.cons hy (LR.cons ⟨_, _, hn0, rfl⟩ LR.nil)⟩
  · cases h

theorem swap5_ok (hf : P.funcs[g]? = some fn) (hname : (fn.name == "runtime.NumGoroutine") = false) (hb : fn.body.isNone = true) (hn : Extern.findNext fn = none)
    (he : Extern.find fn = some (Extern.ReflectliteSwapper.swap true)) (hd : (P.info? e).map (fun i => (i.desc, i.size)) = some (.int .u64, 1)) (hund : P.underlying e = some (.int .u64)) {Gs : Nat} (hGs : Gs = P.globals.size) (hG : P.globals.size < G) {xs : List V} {v : V}
    (h : extCall (.swap5 e Gs) xs σ = some (v, σ')) : Plain1 P G g xs σ v σ' := by
  subst hGs
  intro B w0 φ w args hP hR hL
  unfold extCall at h
  split at h
  all_goals (first | (cases h; done) | skip)
  all_goals (rename_i heq; cases heq)
  rename_i i j id off n z g' e'
  split at h
  · rename_i hc
    obtain ⟨rfl, rfl, hi0, hin, hj0, hjn⟩ := hc
    split at h
    · rename_i x y hcx hcy
      split at h
      · rename_i σ1 hst1
        split at h
        · rename_i σ2 hst2
          cases h
          obtain ⟨x1, s1, hs1, h1, hr1⟩ := hL
          obtain ⟨x2, s2, hs2, h2, hr2⟩ := hr1
          obtain ⟨x3, x4, hs3, h3, h4⟩ := LR.two hr2
          subst hs2; subst hs3
          have h1 : x1 = .int .i64 i := h1
          have h2 : x2 = .int .i64 j := h2
          subst h1; subst h2
          obtain ⟨b, nb, o', cap, hb3, rfl, hlc, hfit, ho⟩ := h3
          obtain ⟨b4, n4, hb4, rfl⟩ := h4
          obtain ⟨n0, hn0⟩ := (hR.glob P.globals.size hG).2
          rw [hn0] at hb4; cases hb4
          have ho : o' = off := by rcases ho with h | ⟨h, _⟩; exact h; omega
          subst ho
          have harg : args = #[.int .i64 i, .int .i64 j, .slice (some ⟨b, o', none⟩) n cap, .pointer (some ⟨P.globals.size, e', none⟩)] := by cases args; simpa using hs1
          subst harg
          obtain ⟨X, hX, hvX⟩ := hR.cell hcx hb3
          obtain ⟨Y, hY, hvY⟩ := hR.cell hcy hb3
          obtain ⟨ii, hii, hi1, hi2⟩ : ∃ q, P.info? e' = some q ∧ q.desc = .int .u64 ∧ q.size = 1 := by
            cases hj : P.info? e' with
            | none => rw [hj] at hd; cases hd
            | some q => rw [hj] at hd; simp at hd; exact ⟨q, rfl, hd.1, hd.2⟩
          have hsz : ∀ w : World, (Go.sizeOf e').run P w = .ok 1 w := by intro w; simp [Go.sizeOf, typeInfo, program, Sem.run, hii, hi2, Result.andThen]
          have hagg : ∀ w : World, (isAgg e').run P w = .ok false w := by intro w; simp [isAgg, run_underlying' hund]
          have flat1 : ∀ {σ σ2 : St} {k : Nat} {u : V}, σ.store id k [u] = some σ2 → u.cells = [u] := by
            intro σ σ2 k u hs
            unfold St.store at hs
            split at hs
            · split at hs
              · rename_i hcc
                have := hcc.2
                cases u <;> first | rfl | (simp [V.flat] at this)
              · cases hs
            · cases hs
          have hcY : LR φ [y] Y.cells.toList := by have := VR.cells hvY; rwa [flat1 hst1] at this
          have hcX : LR φ [x] X.cells.toList := by have := VR.cells hvX; rwa [flat1 hst2] at this
          have lY : Y.cells.size = 1 := by have := hcY.length; simpa using this
          have lX : X.cells.size = 1 := by have := hcX.length; simpa using this
          obtain ⟨w1, hr1, hR1⟩ := hR.store (P := P) hst1 hb3 hcY
          obtain ⟨w2, hr2, hR2⟩ := hR1.store (P := P) hst2 hb3 hcX
          refine .inr ⟨.tuple #[], w2, φ, ?_, Phi.le.refl _, hR2, VR.undef⟩
          rw [run_callFunc_extern hf hname hb hn he]
          have hsx : ∀ w : World, (storeVar e' ⟨b, o' + i.toNat, none⟩ Y).run P w = (storeCells ⟨b, o' + i.toNat, none⟩ Y.cells.toList).run P w := by
            intro w; simp [storeVar, hsz, lY]
          have hsy : ∀ w : World, (storeVar e' ⟨b, o' + j.toNat, none⟩ X).run P w = (storeCells ⟨b, o' + j.toNat, none⟩ X.cells.toList).run P w := by
            intro w; simp [storeVar, hsz, lX]
          have hlx : (loadVar e' ⟨b, o' + i.toNat, none⟩).run P w = .ok X w := by simp only [loadVar, Sem.run_bind, hagg, Result.andThen_ok, Bool.false_eq_true, if_false, run_load, hX]
          have hly : (loadVar e' ⟨b, o' + j.toNat, none⟩).run P w = .ok Y w := by simp only [loadVar, Sem.run_bind, hagg, Result.andThen_ok, Bool.false_eq_true, if_false, run_load, hY]
          have hh : handleType P (.pointer (some ⟨P.globals.size, e', none⟩)) = some e' := by simp [handleType]
          have c1 : ¬ (i < 0) := by omega
          have c2 : ¬ (i ≥ (n : Int)) := by omega
          have c3 : ¬ (j < 0) := by omega
          have c4 : ¬ (j ≥ (n : Int)) := by omega
          simp [swap_eq, c1, c2, c3, c4, Extern.Rtype.ofHandle, program, Sem.run, hh, Result.andThen, Extern.ReflectliteSwapper.exchange, hsz, add_none, hlx, hly, hsx, hr1, hsy, hr2]
        · cases h
      · cases h
    · cases h
  · cases h
end reflectlite

end AM
namespace AM
noncomputable section
open Go Go.RowKit
set_option linter.unusedVariables false
variable {P : Program} {φ : Phi} {w : World} {w0 : Base} {σ σ' : St} {G B : Nat}

def tl (l : List (Nat × V)) : T V := l.foldr (fun p t => t.set p.1 p.2) .nil
def updT {α : Type} (t : T α) : List (Nat × α) → T α
  | [] => t
  | p :: r => updT (t.set p.1 p.2) r
def vu (n : Int) : V := .int .u64 n
def vi (n : Int) : V := .int .i64 n
def vb (n : Int) : V := .int .u8 n
def vp (a o : Nat) : V := .ptr (some (a, o))
def updC (o : T Obj) : List (Nat × List (Nat × V)) → T Obj
  | [] => o
  | p :: r => updC (match o.get p.1 with
    | some (.cells a g n z t) => o.set p.1 (.cells a g n z (updT t p.2))
    | _ => o) r
def upd (σ : St) (next : Nat) (os : List (Nat × Obj)) (cs : List (Nat × List (Nat × V))) (gs : List (Nat × List Nat)) : St := ⟨next, updC (updT σ.objs os) cs, updT σ.grps gs⟩
def checkK (Γ : T AF) (M : List Memo) (L : List LMemo) (f : Nat) (dead : List Nat) (m : Memo) : Bool :=
  match callF Γ M L f (.fn m.g) m.xs m.σ with
  | some l => l.all fun o => sameV o.1 m.v && sameSt { o.2 with objs := killAll dead o.2.objs } m.σ'
  | none => false
def checkM (Γ : T AF) (M : List Memo) (L : List LMemo) (f : Nat) (m : Memo) : Bool := checkK Γ M L f [] m

def MemosOk (P : Program) (G : Nat) (M : List Memo) : Prop := ∀ m ∈ M, MemoOk P G m
theorem MemosOk.nil : MemosOk P G [] := fun m h => by simp at h
theorem MemosOk.cons {m : Memo} {M : List Memo} (h : MemoOk P G m) (k : MemosOk P G M) : MemosOk P G (m :: M) := by
  intro x hx
  rcases List.mem_cons.1 hx with rfl | hx
  · exact h
  · exact k x hx

theorem memo_of_checkK {Γ : T AF} {M : List Memo} {L : List LMemo} (hmix : P.follows .mixedOrders = true) {G : Nat} (hGP : P.globals.size ≤ G) (hΓ : EnvOk P G Γ) (hM : MemosOk P G M) (hL : LoopsOk P G L) {f : Nat} {dead : List Nat} {m : Memo} {fn : AFunc} (hg : Γ.get m.g = some (.code fn))
    (h : checkK Γ M L f dead m = true) : MemoOk P G m := by
  unfold checkK at h
  split at h
  · rename_i outs hc
    refine memo_ok Γ M L hL hΓ hM hGP (fun call hcall => draw_sound hmix hGP hcall) hg hc (dead := dead) (fun o ho => ?_)
    have := List.all_eq_true.1 h o ho
    simp only [Bool.and_eq_true] at this
    exact ⟨sameV_eq _ _ this.1, sameSt_eq _ _ this.2⟩
  · cases h

theorem memo_of_check {Γ : T AF} {M : List Memo} {L : List LMemo} (hmix : P.follows .mixedOrders = true) {G : Nat} (hGP : P.globals.size ≤ G) (hΓ : EnvOk P G Γ) (hM : MemosOk P G M) (hL : LoopsOk P G L) {f : Nat} {m : Memo} {fn : AFunc} (hg : Γ.get m.g = some (.code fn))
    (h : checkM Γ M L f m = true) : MemoOk P G m := memo_of_checkK hmix hGP hΓ hM hL hg h

theorem LoopsOk.nil : LoopsOk P G [] := fun m h => by simp at h
theorem LoopsOk.cons {m : LMemo} {L : List LMemo} (h : LoopOk P G m) (k : LoopsOk P G L) : LoopsOk P G (m :: L) := by
  intro x hx
  rcases List.mem_cons.1 hx with rfl | hx
  · exact h
  · exact k x hx

def checkL (Γ : T AF) (M : List Memo) (L : List LMemo) (f : Nat) (dead : List Nat) (m : LMemo) : Bool :=
  match exec (callF Γ M L f) L f (.loop m.b) m.fr m.σ with
  | some l => l.all fun o => decide (o.1 = m.ex) && (sameFr o.2.1 m.fr' && sameSt { o.2.2 with objs := killAll dead o.2.2.objs } m.σ')
  | none => false

theorem loop_of_check {Γ : T AF} {M : List Memo} {L : List LMemo} (hmix : P.follows .mixedOrders = true) {G : Nat} (hGP : P.globals.size ≤ G) (hΓ : EnvOk P G Γ) (hM : MemosOk P G M) (hL : LoopsOk P G L) {f : Nat} {dead : List Nat} {m : LMemo}
    (h : checkL Γ M L f dead m = true) : LoopOk P G m := by
  unfold checkL at h
  split at h
  · rename_i outs hc
    intro rd n x hx B w0 φ a w hP hR hF b k cs hb
    obtain ⟨i1, _⟩ := callF_sound Γ M L hL hΓ hM hGP (fun call hcall => draw_sound hmix hGP hcall) f
    rw [← hx] at hc
    obtain ⟨o, ho, a', w', φ', h1, h2, h3, h4⟩ := loop_sound i1 hL (draw_sound hmix hGP i1.det) hGP hP hb f hc hR hF
    have := List.all_eq_true.1 h o ho
    simp only [Bool.and_eq_true, decide_eq_true_eq] at this
    obtain ⟨e1, e2, e3⟩ := this
    have e2 := sameFr_eq _ _ e2
    have e3 := sameSt_eq _ _ e3
    exact ⟨a', w', φ', h1, e3 ▸ h2.kill dead, e2 ▸ h3, e1 ▸ h4⟩
  · cases h
def loopsOf : AC → List AC
  | .seq a b => loopsOf a ++ loopsOf b
  | .cond _ a b => loopsOf a ++ loopsOf b
  | .block _ b => loopsOf b
  | .loop b => b :: loopsOf b
  | .scope b => loopsOf b
  | .rangeFunc _ _ a b => loopsOf a ++ loopsOf b
  | _ => []
def loopNo (f : AFunc) (k : Nat) : AC := ((loopsOf f.body)[k]?).getD .skip
theorem EnvOk.nil : EnvOk P G .nil := ⟨fun g fn h => by simp [T.get_nil] at h, fun g e xs σ v σ' h => by simp [T.get_nil] at h⟩
theorem EnvOk.code' {Γ : T AF} (h : EnvOk P G Γ) {g : FuncId} {f : Func} {fn : AFunc} (hf : P.funcs[g]? = some f) (hc : compFn P f = some fn) : EnvOk P G (Γ.set g (.code fn)) := by
  refine ⟨fun x fn' hx => ?_, fun x e xs σ v σ' hx => ?_⟩
  · rw [T.get_set] at hx
    by_cases c : x = g
    · subst c; rw [if_pos rfl] at hx; simp at hx; subst hx; exact ⟨f, hf, hc⟩
    · rw [if_neg c] at hx; exact h.code x fn' hx
  · rw [T.get_set] at hx
    by_cases c : x = g
    · subst c; rw [if_pos rfl] at hx; simp at hx
    · rw [if_neg c] at hx; exact h.ext x e xs σ v σ' hx
theorem EnvOk.ext' {Γ : T AF} (h : EnvOk P G Γ) {g : FuncId} {e : Ext} (hc : ∀ xs σ v σ', extCall e xs σ = some (v, σ') → Plain1 P G g xs σ v σ' ∧ (e = .unlock → Def1 P G g xs σ v σ')) : EnvOk P G (Γ.set g (.ext e)) := by
  refine ⟨fun x fn' hx => ?_, fun x e' xs σ v σ' hx => ?_⟩
  · rw [T.get_set] at hx
    by_cases c : x = g
    · subst c; rw [if_pos rfl] at hx; simp at hx
    · rw [if_neg c] at hx; exact h.code x fn' hx
  · rw [T.get_set] at hx
    by_cases c : x = g
    · subst c; rw [if_pos rfl] at hx; simp at hx; subst hx; exact hc xs σ v σ'
    · rw [if_neg c] at hx; exact h.ext x e' xs σ v σ' hx
end
end AM
