import Derived.Test.YtdnefddmghhgpaaGreatDoorA7App
namespace AM
open Go Go.RowKit
set_option linter.unusedVariables false
set_option linter.unusedSimpArgs false
variable {P : Program} {φ : Phi} {tm : T V} {a : Act} {w : World}

def TR (φ : Phi) (tm : T V) (a : Act) (ts : List Nat) : Prop := ∀ t ∈ ts, VR φ ((tm.get t).getD .undef) (a.tmps.getD t Go.undef)
def GR (P : Program) (φ : Phi) : Prop := ∀ g, g < P.globals.size → ∃ n, φ g = some (g, n)

theorem TR.left {l m : List Nat} (h : TR φ tm a (l ++ m)) : TR φ tm a l := fun t ht => h t (List.mem_append.2 (.inl ht))
theorem TR.right {l m : List Nat} (h : TR φ tm a (l ++ m)) : TR φ tm a m := fun t ht => h t (List.mem_append.2 (.inr ht))

theorem opd_raw (hG : GR P φ) {y : Operand} {x : Opd} (h : opd P y = some x) (ht : TR φ tm a x.tmps) : VR φ (x.raw tm) (a.eval y) := by
  cases y with
  | tmp t => simp [opd] at h; subst h; exact ht t (by simp [Opd.tmps])
  | const v =>
    simp only [opd] at h
    split at h
    · rename_i u hu; simp at h; subst h; exact toV_rel φ v u hu
    · cases h
  | global g =>
    simp only [opd] at h
    split at h
    · rename_i hg; simp at h; subst h; obtain ⟨n, hn⟩ := hG g hg; exact ⟨g, n, hn, rfl⟩
    · cases h
  | func f => simp [opd] at h; subst h; exact ⟨#[], #[], rfl, LR.nil, LR.nil⟩

theorem opd_rel (hG : GR P φ) {y : Operand} {x : Opd} (h : opd P y = some x) (ht : TR φ tm a x.tmps) : VR φ (x.eval tm) (a.eval y) := (opd_raw hG h ht).norm

theorem opds_rel (hG : GR P φ) : ∀ {ys : List Operand} {xs : List Opd}, opds P ys = some xs → TR φ tm a (lTmps xs) → LR φ (xs.map (·.eval tm)) (ys.map a.eval)
  | [], xs, h, ht => by simp [opds] at h; subst h; exact LR.nil
  | y :: r, xs, h, ht => by
    simp only [opds] at h
    split at h
    · rename_i x s hx hs
      simp at h; subst h
      have ht' : TR φ tm a (x.tmps ++ lTmps s) := by simpa [lTmps] using ht
      exact LR.cons (opd_rel hG hx ht'.left) (opds_rel hG hs ht'.right)
    · cases h

theorem oopd_rel (hG : GR P φ) {y : Option Operand} {x : Option Opd} (h : oopd P y = some x) (ht : TR φ tm a (oTmps x)) :
    (x = none ∧ y = none) ∨ ∃ x' y', x = some x' ∧ y = some y' ∧ VR φ (x'.eval tm) (a.eval y') := by
  cases y with
  | none => simp [oopd] at h; exact .inl ⟨h.symm, rfl⟩
  | some y =>
    simp only [oopd] at h
    split at h
    · rename_i z hz; simp at h; subst h; exact .inr ⟨z, y, rfl, rfl, opd_rel hG hz ht⟩
    · cases h

/-- parts of an aggregate, laid in place -/
def PR (φ : Phi) (place : Nat → Option (Nat × Nat)) : List (Nat × Nat × V) → List (Nat × Value) → Prop
  | [], m => m = []
  | (o, s, v) :: r, m => ∃ i x q, m = (i, x) :: q ∧ place i = some (o, s) ∧ VR φ v x ∧ PR φ place r q

theorem parts_rel (hG : GR P φ) {place : Nat → Option (Nat × Nat)} : ∀ {ps : List (Nat × Operand)} {l : List (Nat × Nat × Opd)}, parts P place ps = some l → TR φ tm a (pTmps l) →
    PR φ place (evalParts tm l) (ps.map fun p => (p.1, a.eval p.2))
  | [], l, h, ht => by simp [parts] at h; subst h; rfl
  | (i, y) :: r, l, h, ht => by
    simp only [parts] at h
    split at h
    · rename_i o s x q hp hx hq
      simp at h; subst h
      have ht' : TR φ tm a (x.tmps ++ pTmps q) := by simpa [pTmps] using ht
      exact ⟨i, a.eval y, _, rfl, hp, opd_rel hG hx ht'.left, parts_rel hG hq ht'.right⟩
    · cases h

theorem fold_set (off : Nat) : ∀ (xs : List Value) (j : Nat) (cs : Array Value), off + j + xs.length ≤ cs.size →
    (xs.zipIdx j).foldl (fun cs (c : Value × Nat) => cs.setIfInBounds (off + c.2) c.1) cs = (cs.toList.take (off + j) ++ xs ++ cs.toList.drop (off + j + xs.length)).toArray
  | [], j, cs, h => by simp
  | x :: r, j, cs, h => by
    simp only [List.zipIdx_cons, List.foldl_cons]
    rw [fold_set off r (j + 1) _ (by simp at h ⊢; omega)]
    have e := list_seg_step cs.toList (off + j) x r (by simp at h ⊢; omega)
    simp only [Array.toList_setIfInBounds]
    congr 1

theorem fill_rel {place : Nat → Option (Nat × Nat)} : ∀ {ps : List (Nat × Nat × V)} {qs : List (Nat × Value)} {cells : List V} {C : Array Value} {cs : List V},
    PR φ place ps qs → LR φ cells C.toList → fillP cells ps = some cs → ∃ D, Instr.fill place C qs = some D ∧ LR φ cs D.toList
  | [], qs, cells, C, cs, h, hC, hf => by
    simp [PR] at h; subst h; simp [fillP] at hf; subst hf; exact ⟨C, rfl, hC⟩
  | (o, s, v) :: r, qs, cells, C, cs, h, hC, hf => by
    obtain ⟨i, x, q, rfl, hp, hv, hr⟩ := h
    simp only [fillP] at hf
    split at hf
    · rename_i hc
      have hvc := hv.cells
      have hl := hvc.length
      have hCl := hC.length
      simp only [Instr.fill, hp]
      have e1 : ¬ (x.cells.size ≠ s ∨ C.size < o + x.cells.size) := by simp at hl hCl ⊢; omega
      have e2 : (decide (x.cells.size ≠ s) || decide (o + x.cells.size > C.size)) = false := by simp at e1 ⊢; omega
      simp only [e2]
      have hfold := fold_set o x.cells.toList 0 C (by simp at hl hCl ⊢; omega)
      simp only [Nat.add_zero] at hfold
      have hfold' : x.cells.zipIdx.foldl (fun cs (c, j) => cs.setIfInBounds (o + j) c) C = (C.toList.take o ++ x.cells.toList ++ C.toList.drop (o + x.cells.toList.length)).toArray := by
        rw [← Array.foldl_toList, Array.toList_zipIdx]; exact hfold
      rw [if_neg (by simp)]
      rw [hfold']
      refine fill_rel hr ?_ hf
      simp only []
      rw [hl, hc.1]
      exact LR.append (LR.append (LR.take o hC) hvc) (LR.drop _ hC)
    · cases hf

theorem run_underlying' {t : TypeId} {d : TypeDesc} (h : P.underlying t = some d) : (underlying t).run P w = .ok d w := by
  simp [underlying, h]
theorem run_sizeOf' {t : TypeId} {n : Nat} (h : szOf P t = some n) : (Go.sizeOf t).run P w = .ok n w := by
  unfold szOf at h
  cases hi : P.info? t with
  | none => rw [hi] at h; cases h
  | some i => rw [hi] at h; simp only [Option.map_some, Option.some.injEq] at h; simp [Go.sizeOf, typeInfo, hi, h]
theorem run_isAgg' {t : TypeId} {g : Bool} (h : aggT P t = some g) : (isAgg t).run P w = .ok g w := by
  unfold aggT at h
  cases hd : P.underlying t with
  | none => rw [hd] at h; cases h
  | some d =>
    rw [hd] at h
    simp only [isAgg, Sem.run_bind, run_underlying' hd, Result.andThen_ok]
    cases d <;> simp at h ⊢ <;> simp [h]
theorem run_zeroValue' {t : TypeId} {z : V} (h : zeroV P t = some z) : ∃ x, (∀ w, (zeroValue t).run P w = .ok x w) ∧ toV x = some z := by
  unfold zeroV at h
  cases hi : P.info? t with
  | none => simp [hi] at h
  | some i =>
    rw [hi] at h
    simp only [Option.bind_some, Option.bind_eq_some_iff] at h
    obtain ⟨x, hx, hz⟩ := h
    exact ⟨x, fun w => by simp [zeroValue, typeInfo, hi, hx], hz⟩
theorem zeroC_spec {t : TypeId} {z : List V} (h : zeroC P t = some z) : ∃ x, (∀ w, (zeroValue t).run P w = .ok x w) ∧ (∀ φ, LR φ z x.cells.toList) ∧ szOf P t = some z.length ∧ x.cells.size = z.length := by
  unfold zeroC at h
  split at h
  · rename_i z' n hz hn
    split at h
    · rename_i hl
      simp at h; subst h
      obtain ⟨x, hx, hzx⟩ := run_zeroValue' hz
      have hr : ∀ φ, LR φ z'.cells x.cells.toList := fun φ => (toV_rel φ x z' hzx).cells
      exact ⟨x, hx, hr, by rw [hn, hl], by have := (hr (fun _ => none)).length; simpa using this⟩
    · cases h
  · cases h

/-! ### integers -/
theorem bn_shift {op : BinOp} : (bn op = .shl ↔ op = .shl) ∧ (bn op = .shr ↔ op = .shr) := by cases op <;> simp [bn]

theorem run_bin {op : BinOp} {t : TypeId} {x y : V} {X Y : Value} {v : V} (hv : bin (bn op) x y = some v) (hx : VR φ x X) (hy : VR φ y Y) :
    ∃ z, (Go.binOp op t X Y).run P w = .ok z w ∧ VR φ v z := by
  unfold bin at hv
  split at hv
  · rename_i k n k' m
    have hx : X = .int k n := hx
    have hy : Y = .int k' m := hy
    subst hx; subst hy
    split at hv
    · rename_i hs
      unfold shiftI at hv
      split at hv
      · cases hv
      · rename_i hneg
        have hb := @bn_shift op
        rcases hs with hs | hs
        · have := hb.1.1 hs; subst this
          simp [bn] at hv; subst hv
          exact ⟨_, by simp [Go.binOp, Op.shift, hneg], rfl⟩
        · have := hb.2.1 hs; subst this
          simp [bn] at hv; subst hv
          exact ⟨_, by simp [Go.binOp, Op.shift, hneg], rfl⟩
    · rename_i hs
      split at hv
      · rename_i hk
        subst hk
        cases op <;> simp [bn] at hs hv ⊢ <;> simp only [binI] at hv <;> (try (split at hv)) <;> (try (cases hv; done)) <;> (try (simp at hv)) <;> (try subst hv) <;>
          first
          | (refine ⟨_, ?_, rfl⟩; simp [Go.binOp, Op.intArith, Op.intDiv, Op.intBits, Op.intCmp, *]; done)
          | (cases hv)
      · cases hv
  · cases hv
end AM
