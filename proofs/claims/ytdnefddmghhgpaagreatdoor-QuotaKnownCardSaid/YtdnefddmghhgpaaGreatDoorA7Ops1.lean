import Derived.Test.YtdnefddmghhgpaaGreatDoorA7Eq
namespace AM
open Go Go.RowKit
set_option linter.unusedVariables false
set_option linter.unusedSimpArgs false
variable {P : Program} {φ : Phi} {tm : T V} {a : Act} {w : World}

/-- what an operation that leaves the world alone comes to -/
def Tells (P : Program) (a : Act) (o : Oper) (φ : Phi) (v : V) (w : World) : Prop :=
  ∃ x, (execOp a.eval o).run P w = .ok (.value x) w ∧ VR φ v x

def EkIs (P : Program) (t : TypeId) (x y : Operand) : Ek → Prop
  | .bool => P.underlying t = some .bool
  | .ptr => ∃ e, P.underlying t = some (.pointer e)
  | .slice => ∃ e, P.underlying t = some (.slice e)
  | .map => ∃ k e, P.underlying t = some (.map k e)
  | .func => ∃ ps rs v, P.underlying t = some (.func ps rs v)
  | .iface => (∃ ms, P.underlying t = some (.interface ms)) ∧ (isC x || isC y) = true

theorem ekOf_spec {t : TypeId} {x y : Operand} {k : Ek} (h : ekOf P t x y = some k) : EkIs P t x y k := by
  unfold ekOf at h
  split at h
  · rename_i hu; cases h; exact hu
  · rename_i e hu; cases h; exact ⟨e, hu⟩
  · rename_i e hu; cases h; exact ⟨e, hu⟩
  · rename_i k e hu; cases h; exact ⟨k, e, hu⟩
  · rename_i ps rs v hu; cases h; exact ⟨ps, rs, v, hu⟩
  · rename_i ms hu
    split at h
    · rename_i hc; cases h; exact ⟨⟨ms, hu⟩, hc⟩
    · cases h
  · cases h

theorem eqGuard_plain (op : BinOp) (t : TypeId) (x y : Operand) (X Y : Value) (h1 : ∀ c, X ≠ .agg c) (h2 : X = .nilIface → Y = .nilIface → (isC x || isC y) = true) :
    (eqGuard op t x y X Y).run P w = .ok () w := by
  unfold eqGuard
  cases X <;> cases Y <;> (try (cases op <;> simp; done)) <;> (try (exact (h1 _ rfl).elim))
  have hc := h2 rfl rfl
  cases op <;> cases x <;> cases y <;> simp_all [isC]

theorem run_eql_of {t : TypeId} {X Y : Value} {r : Bool} {op : BinOp} (hop : op = .eql ∨ op = .neq) (h : (Op.equal t X Y).run P w = .ok r w)
    (hX : ∀ k n, X ≠ .int k n) (hs : ∀ s, X ≠ .string s) (hf : ∀ k b, X ≠ .float k b) (hc : ∀ k b c, X ≠ .complex k b c) :
    (Go.binOp op t X Y).run P w = .ok (.bool (if (op == .neq) then !r else r)) w := by
  rcases hop with rfl | rfl
  · unfold Go.binOp
    split <;> simp_all
  · unfold Go.binOp
    split <;> simp_all

theorem ekRun {op : BinOp} (hop : op = .eql ∨ op = .neq) {t : TypeId} {x y : Operand} {k : Ek} (hk : ekOf P t x y = some k) {u v : V} {X Y : Value} {r : Bool} (h : eqV k u v = some r) (hx : VR φ u X) (hy : VR φ v Y) :
    (do eqGuard op t x y X Y; Go.binOp op t X Y : Sem Value).run P w = .ok (.bool (if (op == .neq) then !r else r)) w := by
  have hs := ekOf_spec hk
  have fin : (∀ c, X ≠ .agg c) → (X = .nilIface → Y = .nilIface → (isC x || isC y) = true) → (∀ d, (Op.equalIn (d + 1) t X Y).run P w = .ok r w) →
      (∀ k n, X ≠ .int k n) → (∀ s, X ≠ .string s) → (∀ k b, X ≠ .float k b) → (∀ k b c, X ≠ .complex k b c) →
      (do eqGuard op t x y X Y; Go.binOp op t X Y : Sem Value).run P w = .ok (.bool (if (op == .neq) then !r else r)) w := by
    intro h1 h2 h3 h4 h5 h6 h7
    simp only [Sem.run_bind, eqGuard_plain op t x y X Y h1 h2, Result.andThen_ok]
    exact run_eql_of hop (h3 9999) h4 h5 h6 h7
  unfold eqV at h
  split at h
  · rename_i p q
    have hx : X = .bool p := hx
    have hy : Y = .bool q := hy
    subst hx; subst hy; simp at h; subst h
    have hs : P.underlying t = some .bool := hs
    exact fin (by simp) (by simp) (fun d => by simp [Op.equalIn, run_underlying' hs]) (by simp) (by simp) (by simp) (by simp)
  · rename_i q
    obtain ⟨e, hs⟩ := hs
    have hx : X = .pointer none := hx
    subst hx; simp at h; subst h
    cases q with
    | none => have hy : Y = .pointer none := hy; subst hy; exact fin (by simp) (by simp) (fun d => by simp [Op.equalIn, run_underlying' hs]) (by simp) (by simp) (by simp) (by simp)
    | some q => obtain ⟨b, n, _, hy⟩ := hy; subst hy; exact fin (by simp) (by simp) (fun d => by simp [Op.equalIn, run_underlying' hs]) (by simp) (by simp) (by simp) (by simp)
  · rename_i p
    obtain ⟨e, hs⟩ := hs
    obtain ⟨b, n, _, hx⟩ := hx
    have hy : Y = .pointer none := hy
    subst hx; subst hy; simp at h; subst h
    exact fin (by simp) (by simp) (fun d => by simp [Op.equalIn, run_underlying' hs]) (by simp) (by simp) (by simp) (by simp)
  · rename_i q l2 e2
    obtain ⟨e, hs⟩ := hs
    obtain ⟨_, hx⟩ := hx
    subst hx; simp at h; subst h
    cases q with
    | none => obtain ⟨_, hy⟩ := hy; subst hy; exact fin (by simp) (by simp) (fun d => by simp [Op.equalIn, run_underlying' hs]) (by simp) (by simp) (by simp) (by simp)
    | some q => obtain ⟨b, n, o', cap, _, hy, _⟩ := hy; subst hy; exact fin (by simp) (by simp) (fun d => by simp [Op.equalIn, run_underlying' hs]) (by simp) (by simp) (by simp) (by simp)
  · obtain ⟨e, hs⟩ := hs
    obtain ⟨b, n, o', cap, _, hx, _⟩ := hx
    obtain ⟨_, hy⟩ := hy
    subst hx; subst hy; simp at h; subst h
    exact fin (by simp) (by simp) (fun d => by simp [Op.equalIn, run_underlying' hs]) (by simp) (by simp) (by simp) (by simp)
  · rename_i q
    obtain ⟨kk, e, hs⟩ := hs
    have hx : X = .map none := hx
    subst hx; simp at h; subst h
    cases q with
    | none => have hy : Y = .map none := hy; subst hy; exact fin (by simp) (by simp) (fun d => by simp [Op.equalIn, run_underlying' hs]) (by simp) (by simp) (by simp) (by simp)
    | some q => obtain ⟨b, n, _, hy⟩ := hy; subst hy; exact fin (by simp) (by simp) (fun d => by simp [Op.equalIn, run_underlying' hs]) (by simp) (by simp) (by simp) (by simp)
  · obtain ⟨kk, e, hs⟩ := hs
    obtain ⟨b, n, _, hx⟩ := hx
    have hy : Y = .map none := hy
    subst hx; subst hy; simp at h; subst h
    exact fin (by simp) (by simp) (fun d => by simp [Op.equalIn, run_underlying' hs]) (by simp) (by simp) (by simp) (by simp)
  · obtain ⟨ps, rs, vv, hs⟩ := hs
    have hx : X = .nilFunc := hx
    have hy : Y = .nilFunc := hy
    subst hx; subst hy; simp at h; subst h
    exact fin (by simp) (by simp) (fun d => by simp [Op.equalIn, run_underlying' hs]) (by simp) (by simp) (by simp) (by simp)
  · obtain ⟨ps, rs, vv, hs⟩ := hs
    have hx : X = .nilFunc := hx
    obtain ⟨XX, CC, hy, _⟩ := hy
    subst hx; subst hy; simp at h; subst h
    exact fin (by simp) (by simp) (fun d => by simp [Op.equalIn, run_underlying' hs]) (by simp) (by simp) (by simp) (by simp)
  · obtain ⟨ps, rs, vv, hs⟩ := hs
    have hy : Y = .nilFunc := hy
    obtain ⟨XX, CC, hx, _⟩ := hx
    subst hx; subst hy; simp at h; subst h
    exact fin (by simp) (by simp) (fun d => by simp [Op.equalIn, run_underlying' hs]) (by simp) (by simp) (by simp) (by simp)
  · obtain ⟨⟨ms, hs⟩, hc⟩ := hs
    have hx : X = .nilIface := hx
    have hy : Y = .nilIface := hy
    subst hx; subst hy; simp at h; subst h
    exact fin (by simp) (fun _ _ => hc) (fun d => by simp [Op.equalIn, run_underlying' hs]) (by simp) (by simp) (by simp) (by simp)
  · obtain ⟨⟨ms, hs⟩, hc⟩ := hs
    have hx : X = .nilIface := hx
    obtain ⟨yy, hy, _⟩ := hy
    subst hx; subst hy; simp at h; subst h
    exact fin (by simp) (by simp) (fun d => by simp [Op.equalIn, run_underlying' hs]) (by simp) (by simp) (by simp) (by simp)
  · obtain ⟨⟨ms, hs⟩, hc⟩ := hs
    have hy : Y = .nilIface := hy
    obtain ⟨yy, hx, _⟩ := hx
    subst hx; subst hy; simp at h; subst h
    exact fin (by simp) (by simp) (fun d => by simp [Op.equalIn, run_underlying' hs]) (by simp) (by simp) (by simp) (by simp)
  · cases h

theorem bound_rel {x : V} {X : Value} {y y' n : Nat} (h : boundB x y = some n) (hx : VR φ x X) (hy : y ≤ y') (c : BoundsCode) : (Instr.sliceBound X y' c).run P w = .ok n w ∧ n ≤ y := by
  unfold boundB at h
  split at h
  · rename_i k i
    have hx : X = .int k i := hx
    subst hx
    split at h
    · rename_i hr
      simp at h; subst h
      refine ⟨?_, by omega⟩
      simp only [Instr.sliceBound, asIntOf, pure_bind]
      rw [if_pos ⟨hr.1, by omega⟩]; rfl
    · cases h
  · cases h

def OR (φ : Phi) (x : Option V) (X : Option Value) : Prop := (x = none ∧ X = none) ∨ ∃ u U, x = some u ∧ X = some U ∧ VR φ u U

theorem sliceB_rel {lo hi : Option V} {LO HI : Option Value} {len cap cap' l h : Nat} (hc : cap ≤ cap') (hb : sliceB lo hi len cap = some (l, h)) (hlo : OR φ lo LO) (hhi : OR φ hi HI) (b : Bool) :
    (Instr.sliceBounds b len cap' LO HI none).run P w = .ok (l, h, cap') w ∧ l ≤ h ∧ (h ≤ cap ∨ h = len) := by
  have low : ∀ {h0 : Nat}, loB lo h0 = some (l, h) → h = h0 ∧ l ≤ h ∧ ∀ w : World,
      (match LO with | some v => Instr.sliceBound v h0 .sliceB | none => (pure 0 : Sem Nat)).run P w = .ok l w := by
    intro h0 hh
    rcases hlo with ⟨rfl, rfl⟩ | ⟨u, U, rfl, rfl, hu⟩
    · simp [loB] at hh; obtain ⟨rfl, rfl⟩ := hh; exact ⟨rfl, by omega, fun w => rfl⟩
    · simp only [loB] at hh
      split at hh
      · rename_i l0 hl0
        simp at hh; obtain ⟨rfl, rfl⟩ := hh
        have := bound_rel (P := P) (w := w) hl0 hu (Nat.le_refl _) .sliceB
        exact ⟨rfl, this.2, fun w => (bound_rel (P := P) (w := w) hl0 hu (Nat.le_refl _) .sliceB).1⟩
      · cases hh
  rcases hhi with ⟨rfl, rfl⟩ | ⟨u, U, rfl, rfl, hu⟩
  · obtain ⟨rfl, hl, hrun⟩ := low hb
    refine ⟨?_, hl, .inr rfl⟩
    have := hrun w
    cases LO <;> simp_all [Instr.sliceBounds]
  · simp only [sliceB] at hb
    split at hb
    · cases hb
    · rename_i h0 hh0
      obtain ⟨rfl, hl, hrun⟩ := low hb
      have e := bound_rel (P := P) (w := w) hh0 hu hc (if b then .sliceAcap else .sliceAlen)
      refine ⟨?_, hl, .inl e.2⟩
      have := hrun w
      cases LO <;> simp_all [Instr.sliceBounds]

end AM
