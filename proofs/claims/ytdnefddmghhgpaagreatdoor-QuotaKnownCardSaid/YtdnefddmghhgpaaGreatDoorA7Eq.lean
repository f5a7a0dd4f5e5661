import Derived.Test.YtdnefddmghhgpaaGreatDoorA7Pure
import Derived.Laws.StructEq
namespace AM
open Go Go.RowKit
set_option linter.unusedVariables false
set_option linter.unusedSimpArgs false
variable {P : Program} {φ : Phi} {tm : T V} {a : Act} {w : World}

theorem szOf_info {t : TypeId} {n : Nat} (h : szOf P t = some n) : ∃ i, P.info? t = some i ∧ i.size = n := by
  unfold szOf at h
  cases hi : P.info? t with
  | none => simp [hi] at h
  | some i => simp [hi] at h; exact ⟨i, rfl, h⟩

def dAgg : TypeDesc → Bool
  | .struct _ | .array _ _ => true
  | _ => false
theorem aggT_of {t : TypeId} {d : TypeDesc} (h : P.underlying t = some d) : aggT P t = some (dAgg d) := by
  unfold aggT; rw [h]; cases d <;> rfl

theorem scalarK_spec {t : TypeId} {k : Bool} (h : scalarK P t = some k) : szOf P t = some 1 ∧ aggT P t = some false ∧ ((k = false ∧ P.underlying t = some .bool) ∨ (k = true ∧ ∃ i, P.underlying t = some (.int i))) := by
  unfold scalarK at h
  split at h
  · rename_i hs
    refine ⟨hs, ?_⟩
    split at h
    · rename_i hu; cases h; exact ⟨aggT_of hu, .inl ⟨rfl, hu⟩⟩
    · rename_i i hu; cases h; exact ⟨aggT_of hu, .inr ⟨rfl, i, hu⟩⟩
    · cases h
  · cases h

theorem eqPlain_run {t : TypeId} {k : Bool} (hk : scalarK P t = some k) {x y : V} {X Y : Value} {r : Bool} (h : eqPlain k x y = some r) (hx : VR φ x X) (hy : VR φ y Y) (d : Nat) :
    (Op.equalIn (d + 1) t X Y).run P w = .ok r w := by
  obtain ⟨_, _, hu⟩ := scalarK_spec hk
  unfold eqPlain at h
  split at h
  · rename_i p q
    have hx : X = .bool p := hx
    have hy : Y = .bool q := hy
    subst hx; subst hy
    rcases hu with ⟨_, hu⟩ | ⟨hk', _⟩
    · simp at h; subst h; simp [Op.equalIn, run_underlying' hu]
    · cases hk'
  · rename_i k1 p k2 q
    have hx : X = .int k1 p := hx
    have hy : Y = .int k2 q := hy
    subst hx; subst hy
    rcases hu with ⟨hk', _⟩ | ⟨_, i, hu⟩
    · cases hk'
    · split at h
      · rename_i he; subst he; simp at h; subst h; simp [Op.equalIn, run_underlying' hu]
      · cases h
  · cases h

theorem part_one {t : TypeId} (hagg : aggT P t = some false) {C : Array Value} {off : Nat} {X : Value} (h : C[off]? = some X) : (part t C off).run P w = .ok X w := by
  simp [part, run_isAgg' hagg, h]

theorem eqCells_append : ∀ {l m : List Bool} {xs ys : List V} {r : Bool}, eqCells (l ++ m) xs ys = some r →
    (eqCells l (xs.take l.length) (ys.take l.length) = some false ∧ r = false) ∨
    (eqCells l (xs.take l.length) (ys.take l.length) = some true ∧ eqCells m (xs.drop l.length) (ys.drop l.length) = some r)
  | [], m, xs, ys, r, h => by right; simpa [eqCells] using h
  | k :: l, m, [], ys, r, h => by simp [eqCells] at h
  | k :: l, m, x :: xs, [], r, h => by simp [eqCells] at h
  | k :: l, m, x :: xs, y :: ys, r, h => by
    simp only [List.cons_append, eqCells] at h
    simp only [List.length_cons, List.take_succ_cons, List.drop_succ_cons, eqCells]
    split at h
    · simp at h; exact .inl ⟨by simp, h⟩
    · exact eqCells_append h
    · cases h

/-- an array of scalars -/
theorem eqArr_run {e : TypeId} {k : Bool} (hk : scalarK P e = some k) (d : Nat) (C D : Array Value) : ∀ (n off : Nat) (xs ys : List V) (r : Bool),
    LR φ xs (C.toList.drop off) → LR φ ys (D.toList.drop off) → eqCells (List.replicate n k) (xs.take n) (ys.take n) = some r →
    (forIn (m := Sem) (List.range' off n) ((none, ()) : Option Bool × Unit) (fun i _ => do
        let r ← Op.equalIn (d + 1) e (← part e C (i * 1)) (← part e D (i * 1))
        if (!r) = true then pure (ForInStep.done (some false, ())) else pure (ForInStep.yield (none, ())))).run P w =
      .ok (if r then (none, ()) else (some false, ())) w
  | 0, off, xs, ys, r, hx, hy, h => by simp [eqCells] at h; subst h; simp
  | n + 1, off, xs, ys, r, hx, hy, h => by
    obtain ⟨hs1, hagg, hu⟩ := scalarK_spec hk
    cases xs with
    | nil => simp [List.replicate_succ, eqCells] at h
    | cons x xs =>
      cases ys with
      | nil => simp [List.replicate_succ, eqCells] at h
      | cons y ys =>
        obtain ⟨X, s, hX, hxX, hxs⟩ := hx
        obtain ⟨Y, s', hY, hyY, hys⟩ := hy
        have hCX : C[off]? = some X := by have := congrArg (·[0]?) hX; simpa using this
        have hDY : D[off]? = some Y := by have := congrArg (·[0]?) hY; simpa using this
        have hC' : C.toList.drop (off + 1) = s := by rw [← List.drop_drop, hX]; rfl
        have hD' : D.toList.drop (off + 1) = s' := by rw [← List.drop_drop, hY]; rfl
        simp only [List.replicate_succ, List.take_succ_cons, eqCells] at h
        simp only [List.range'_succ, List.forIn_cons, Sem.run_bind, Nat.mul_one, part_one hagg hCX, part_one hagg hDY, Result.andThen_ok]
        split at h
        · rename_i hp
          simp at h; subst h
          rw [eqPlain_run hk hp hxX hyY]; simp
        · rename_i hp
          rw [eqPlain_run hk hp hxX hyY]
          simp only [Result.andThen_ok, Bool.not_true, Bool.false_eq_true, if_false, Sem.run_pure]
          have := eqArr_run hk d C D n (off + 1) xs ys r (by rw [hC']; exact hxs) (by rw [hD']; exact hys) h
          simpa using this
        · cases h

theorem eqField_run {t : TypeId} {l : List Bool} (hl : fieldK P t = some l) (d : Nat) {C D : Array Value} {off : Nat} {xs ys : List V} {r : Bool}
    (hx : LR φ xs (C.toList.drop off)) (hy : LR φ ys (D.toList.drop off)) (h : eqCells l (xs.take l.length) (ys.take l.length) = some r) :
    ∃ X Y, (part t C off).run P w = .ok X w ∧ (part t D off).run P w = .ok Y w ∧ (Op.equalIn (d + 2) t X Y).run P w = .ok r w := by
  unfold fieldK at hl
  split at hl
  · rename_i n e hu
    split at hl
    · rename_i hsz
      split at hl
      · rename_i k hk
        simp at hl; subst hl
        obtain ⟨hs1, hagg, _⟩ := scalarK_spec hk
        have hagt : aggT P t = some true := aggT_of hu
        refine ⟨.agg (C.extract off (off + n)), .agg (D.extract off (off + n)), ?_, ?_, ?_⟩
        · simp [part, run_isAgg' hagt, run_sizeOf' hsz]
        · simp [part, run_isAgg' hagt, run_sizeOf' hsz]
        · simp only [List.length_replicate] at h
          have hx' : LR φ (xs.take n) ((C.extract off (off + n)).toList.drop 0) := by
            simpa [Array.toList_extract, List.extract_eq_take_drop] using LR.take n hx
          have hy' : LR φ (ys.take n) ((D.extract off (off + n)).toList.drop 0) := by
            simpa [Array.toList_extract, List.extract_eq_take_drop] using LR.take n hy
          have := eqArr_run (w := w) hk d _ _ n 0 _ _ r hx' hy' (by rw [List.take_take, List.take_take, Nat.min_self]; exact h)
          rw [Op.equalIn]
          simp only [Sem.run_bind, run_underlying' hu, Result.andThen_ok, run_sizeOf' hs1]
          rw [Std.Legacy.Range.forIn_eq_forIn_range']
          simp only [Std.Legacy.Range.size, Nat.sub_zero, Nat.add_sub_cancel, Nat.div_one] at this ⊢
          rw [this]
          cases r <;> rfl
      · cases hl
    · cases hl
  · split at hl
    · rename_i k hk
      simp at hl; subst hl
      obtain ⟨hs1, hagg, _⟩ := scalarK_spec hk
      cases xs with
      | nil => simp [eqCells] at h
      | cons x xs =>
        cases ys with
        | nil => simp [eqCells] at h
        | cons y ys =>
          obtain ⟨X, s, hX, hxX, hxs⟩ := hx
          obtain ⟨Y, s', hY, hyY, hys⟩ := hy
          have hCX : C[off]? = some X := by have := congrArg (·[0]?) hX; simpa using this
          have hDY : D[off]? = some Y := by have := congrArg (·[0]?) hY; simpa using this
          refine ⟨X, Y, part_one hagg hCX, part_one hagg hDY, ?_⟩
          simp [eqCells] at h
          have : eqPlain k x y = some r := by
            split at h
            · rename_i hp; simp at h; subst h; exact hp
            · rename_i hp; simp at h; subst h; exact hp
            · cases h
          exact eqPlain_run hk this hxX hyY _
    · cases hl

theorem fieldK_sz {t : TypeId} {l : List Bool} (h : fieldK P t = some l) : szOf P t = some l.length := by
  unfold fieldK at h
  split at h
  · split at h
    · rename_i hs
      split at h
      · simp at h; subst h; simpa using hs
      · cases h
    · cases h
  · split at h
    · rename_i k hk; simp at h; subst h; exact (scalarK_spec hk).1
    · cases h

theorem eqCells_len : ∀ {l : List Bool} {xs ys : List V} {r : Bool}, eqCells l xs ys = some r → True := fun _ => trivial

theorem eqFields_run (d : Nat) {C D : Array Value} : ∀ {fs : List Field} {l : List Bool} {off : Nat} {xs ys : List V} {r : Bool}, fieldsK P fs off = some l →
    LR φ xs (C.toList.drop off) → LR φ ys (D.toList.drop off) → eqCells l (xs.take l.length) (ys.take l.length) = some r → (Op.eqFields (d + 2) C D fs).run P w = .ok r w
  | [], l, off, xs, ys, r, hf, hx, hy, h => by
    simp [fieldsK] at hf; subst hf; simp [eqCells] at h; subst h; rfl
  | f :: fs, l, off, xs, ys, r, hf, hx, hy, h => by
    simp only [fieldsK] at hf
    split at hf
    · rename_i hc
      split at hf
      · rename_i l1 hl1
        split at hf
        · rename_i m hm
          simp at hf; subst hf
          obtain ⟨hoff, hname⟩ := hc
          simp only [Op.eqFields]
          rw [if_pos hname]
          simp only [Sem.run_bind, hoff]
          have key : ∀ {u v : List V}, eqCells l1 ((u.take (l1 ++ m).length).take l1.length) ((v.take (l1 ++ m).length).take l1.length) = eqCells l1 (u.take l1.length) (v.take l1.length) := by
            intro u v
            rw [List.take_take, List.take_take]; simp
          rcases eqCells_append h with ⟨h1, rfl⟩ | ⟨h1, h2⟩
          · rw [key] at h1
            obtain ⟨X, Y, e1, e2, e3⟩ := eqField_run (w := w) hl1 d hx hy h1
            rw [e1]; simp only [Result.andThen_ok]; rw [e2]; simp only [Result.andThen_ok]; rw [e3]; simp
          · rw [key] at h1
            obtain ⟨X, Y, e1, e2, e3⟩ := eqField_run (w := w) hl1 d hx hy h1
            rw [e1]; simp only [Result.andThen_ok]; rw [e2]; simp only [Result.andThen_ok]; rw [e3]
            simp only [Result.andThen_ok, Bool.not_true, Bool.false_eq_true, if_false]
            refine eqFields_run d hm (by have := LR.drop l1.length hx; rwa [List.drop_drop] at this) (by have := LR.drop l1.length hy; rwa [List.drop_drop] at this) ?_
            have : ∀ u : List V, (u.take (l1 ++ m).length).drop l1.length = (u.drop l1.length).take m.length := by
              intro u; rw [List.drop_take]; simp
            rw [this, this] at h2; exact h2
        · cases hf
      · cases hf
    · cases hf

theorem eqCells_take : ∀ {l : List Bool} {xs ys : List V} {r : Bool}, eqCells l xs ys = some r → eqCells l (xs.take l.length) (ys.take l.length) = some r
  | [], [], [], r, h => by simpa using h
  | [], x :: xs, ys, r, h => by simp [eqCells] at h
  | [], [], y :: ys, r, h => by simp [eqCells] at h
  | k :: l, [], ys, r, h => by simp [eqCells] at h
  | k :: l, x :: xs, [], r, h => by simp [eqCells] at h
  | k :: l, x :: xs, y :: ys, r, h => by
    simp only [eqCells, List.length_cons, List.take_succ_cons] at h ⊢
    split at h
    · exact h
    · exact eqCells_take h
    · cases h

theorem eqCells_size : ∀ {l : List Bool} {xs ys : List V}, eqCells l xs ys = some true → xs.length = l.length ∧ ys.length = l.length
  | [], [], [], h => by simp
  | [], x :: xs, ys, h => by simp [eqCells] at h
  | [], [], y :: ys, h => by simp [eqCells] at h
  | k :: l, [], ys, h => by simp [eqCells] at h
  | k :: l, x :: xs, [], h => by simp [eqCells] at h
  | k :: l, x :: xs, y :: ys, h => by
    simp only [eqCells] at h
    split at h
    · cases h
    · have := eqCells_size h; simp; omega
    · cases h

theorem eqs_run {t : TypeId} {ks : List Bool} (hk : kindsOf P t = some ks) {xs ys : List V} {C D : Array Value} {r : Bool} (hx : LR φ xs C.toList) (hy : LR φ ys D.toList)
    (h : eqCells ks xs ys = some r) : (Op.equal t (.agg C) (.agg D)).run P w = .ok r w := by
  unfold kindsOf at hk
  split at hk
  · rename_i fs hu
    split at hk
    · rename_i hst
      have hfo : P.fieldsOf t = fs := by simp [Program.fieldsOf, hu]
      unfold Op.equal Op.maxDepth
      rw [show (10000 : Nat) = 9999 + 1 from rfl, run_equalIn_struct w 9999 t C D (by rw [hfo]; exact hu) hst, hfo]
      exact eqFields_run 9997 hk (by simpa using hx) (by simpa using hy) (eqCells_take h)
    · cases hk
  · cases hk
end AM
