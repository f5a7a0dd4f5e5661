import Derived.Test.YtdnefddmghhgpaaGreatDoorA6Draw2
import Derived.Laws.LoneSync
namespace AM
open Go Go.RowKit Go.Conc.Locks
set_option linter.unusedVariables false
set_option linter.unusedSimpArgs false
variable {P : Program} {φ : Phi} {w : World} {w0 : Base} {σ σ' : St} {G B : Nat}

theorem Rel.store1 (h : Rel G B w0 φ σ w) {id off b n : Nat} {u v : V} {x : Value} (hc : σ.cell id off = some u) (hs : σ.store id off [v] = some σ') (ha : φ id = some (b, n)) (hv : VR φ v x) (hx : x.oneCell' = true) :
    w.frozen? ⟨b, off, none⟩ = false ∧ Rel G B w0 φ σ' (w.setCell ⟨b, off, none⟩ x) := by
  obtain ⟨y, hy, _⟩ := h.cell hc ha
  obtain ⟨w', hrun, hR⟩ := h.store (P := (default : Program)) hs ha (LR.cons hv LR.nil)
  have h0 : (⟨b, off, none⟩ : Addr).add 0 = ⟨b, off, none⟩ := add_none b off 0
  simp only [storeCells, h0, Sem.run_bind, Sem.run_pure] at hrun
  rw [run_store (default : Program) w ⟨b, off, none⟩ x .plain hx, hy] at hrun
  cases hf : w.frozen? ⟨b, off, none⟩ with
  | true => rw [hf] at hrun; simp [Result.andThen] at hrun
  | false =>
    rw [hf] at hrun
    simp [Result.andThen] at hrun
    subst hrun
    exact ⟨rfl, hR⟩

theorem LR.one {v : V} {l : List Value} (h : LR φ [v] l) : ∃ x, l = [x] ∧ VR φ v x := by
  obtain ⟨x, s, rfl, h1, h2⟩ := h; cases h2; exact ⟨x, rfl, h1⟩
theorem LR.two {u v : V} {l : List Value} (h : LR φ [u, v] l) : ∃ x y, l = [x, y] ∧ VR φ u x ∧ VR φ v y := by
  obtain ⟨x, s, rfl, h1, h2⟩ := h
  obtain ⟨y, rfl, h3⟩ := LR.one h2
  exact ⟨x, y, rfl, h1, h3⟩

theorem addr_ptr {id off : Nat} {x : Value} (h : VR φ (.ptr (some (id, off))) x) : ∃ b n, φ id = some (b, n) ∧ x = .pointer (some ⟨b, off, none⟩) := h

theorem undef_tuple : VR φ (.tuple []) (.tuple #[]) := ⟨#[], rfl, rfl⟩

theorem lock_ok {L : MuLink} (H : MuLib P L) {xs : List V} {v : V} (h : extCall .lock xs σ = some (v, σ')) : Plain1 P G L.lock xs σ v σ' := by
  intro B w0 φ w args hP hR hL
  unfold extCall at h
  split at h
  · rename_i id off he
    split at h
    · rename_i hc
      obtain ⟨⟨⟩⟩ := he
      cases hst : σ.store id off [.int .i32 1] with
      | none => rw [hst] at h; simp at h
      | some σ2 =>
        rw [hst] at h; simp at h; obtain ⟨rfl, rfl⟩ := h
        obtain ⟨x, hx, hp⟩ := LR.one hL
        obtain ⟨b, n, hb, rfl⟩ := addr_ptr hp
        obtain ⟨y, hy, hvy⟩ := hR.cell hc hb
        cases hvy
        obtain ⟨hz, hR'⟩ := hR.store1 (x := .int .i32 1) hc hst hb rfl rfl
        have harg : args = #[.pointer (some ⟨b, off, none⟩)] := by cases args; simpa using hx
        subst harg
        left
        refine ⟨MuLone.run_callFunc_enter (P := P) H.f_lock (by kernel_rfl) rfl _ w, ?_⟩
        refine (MuLone.lock_free H ⟨b, off, none⟩ w hy hz).mono ?_
        rintro e w' ⟨rfl, rfl⟩
        exact ⟨φ, _, rfl, Phi.le.refl _, hR', undef_tuple⟩
    · cases h
  all_goals (first | contradiction | cases h)

theorem unlock_ok {L : MuLink} (H : MuLib P L) {xs : List V} {v : V} (h : extCall .unlock xs σ = some (v, σ')) : Plain1 P G L.unlock xs σ v σ' ∧ Def1 P G L.unlock xs σ v σ' := by
  have key : ∀ B w0 φ w (args : Array Value), Rel G B w0 φ σ w → LR φ xs args.toList → ∃ a, args = #[.pointer (some a)] ∧ w.cell? a = some (.int .i32 1) ∧ w.frozen? a = false ∧ v = .tuple [] ∧ Rel G B w0 φ σ' (w.setCell a (.int .i32 0)) := by
    intro B w0 φ w args hR hL
    unfold extCall at h
    split at h
    · contradiction
    · rename_i id off he
      split at h
      · rename_i hc
        obtain ⟨⟨⟩⟩ := he
        cases hst : σ.store id off [.int .i32 0] with
        | none => rw [hst] at h; simp at h
        | some σ2 =>
          rw [hst] at h; simp at h; obtain ⟨rfl, rfl⟩ := h
          obtain ⟨x, hx, hp⟩ := LR.one hL
          obtain ⟨b, n, hb, rfl⟩ := addr_ptr hp
          obtain ⟨y, hy, hvy⟩ := hR.cell hc hb
          cases hvy
          obtain ⟨hz, hR'⟩ := hR.store1 (x := .int .i32 0) hc hst hb rfl rfl
          exact ⟨_, by cases args; simpa using hx, hy, hz, rfl, hR'⟩
      · cases h
    all_goals (first | contradiction | cases h)
  refine ⟨?_, fun args w => MuLone.run_callFunc_enter (P := P) H.f_unlock (by kernel_rfl) rfl _ w, ?_⟩
  · intro B w0 φ w args hP hR hL
    obtain ⟨a, rfl, hc, hz, rfl, hR'⟩ := key B w0 φ w args hR hL
    left
    refine ⟨MuLone.run_callFunc_enter (P := P) H.f_unlock (by kernel_rfl) rfl _ w, ?_⟩
    refine (MuLone.unlock_held H a w hc hz).mono ?_
    rintro e w' ⟨rfl, rfl⟩
    exact ⟨φ, _, rfl, Phi.le.refl _, hR', undef_tuple⟩
  · intro B w0 φ w args hP hR hL
    obtain ⟨a, rfl, hc, hz, rfl, hR'⟩ := key B w0 φ w args hR hL
    refine (MuLone.unlock_deferred H a .returning w hc hz).mono ?_
    rintro e u w' ⟨rfl, rfl, rfl⟩
    exact ⟨rfl, φ, _, rfl, Phi.le.refl _, hR', undef_tuple⟩

theorem loadU32_ok {g : FuncId} {fn : Func} (hf : P.funcs[g]? = some fn) (hname : (fn.name == "runtime.NumGoroutine") = false) (hb : fn.body.isNone = true) (hn : Extern.findNext fn = none)
    (he : Extern.find fn = some (Extern.Atomic.loadT (.int .u32))) {xs : List V} {v : V} (h : extCall .loadU32 xs σ = some (v, σ')) : Plain1 P G g xs σ v σ' := by
  intro B w0 φ w args hP hR hL
  unfold extCall at h
  split at h
  · contradiction
  · contradiction
  · rename_i id off hx
    split at h
    · rename_i k hc
      obtain ⟨⟨⟩⟩ := hx
      simp at h; obtain ⟨rfl, rfl⟩ := h
      obtain ⟨x, hx, hp⟩ := LR.one hL
      obtain ⟨b, n, hb2, rfl⟩ := addr_ptr hp
      obtain ⟨y, hy, hvy⟩ := hR.cell hc hb2
      cases hvy
      have harg : args = #[.pointer (some ⟨b, off, none⟩)] := by cases args; simpa using hx
      subst harg
      exact .inr ⟨_, w, φ, run_call_load hf hname hb hn .u32 he hy, Phi.le.refl _, hR, rfl⟩
    · cases h
  all_goals (first | contradiction | cases h)

theorem storeU32_ok {g : FuncId} {fn : Func} (hf : P.funcs[g]? = some fn) (hname : (fn.name == "runtime.NumGoroutine") = false) (hb : fn.body.isNone = true) (hn : Extern.findNext fn = none)
    (he : Extern.find fn = some Extern.Atomic.storeT) {xs : List V} {v : V} (h : extCall .storeU32 xs σ = some (v, σ')) : Plain1 P G g xs σ v σ' := by
  intro B w0 φ w args hP hR hL
  unfold extCall at h
  split at h
  · contradiction
  · contradiction
  · contradiction
  · rename_i id off m hx
    split at h
    · rename_i k hc
      obtain ⟨⟨⟩⟩ := hx
      cases hst : σ.store id off [.int .u32 m] with
      | none => rw [hst] at h; simp at h
      | some σ2 =>
        rw [hst] at h; simp at h; obtain ⟨rfl, rfl⟩ := h
        obtain ⟨x, y, hxy, hp, hq⟩ := LR.two hL
        cases hq
        obtain ⟨b, n, hb2, rfl⟩ := addr_ptr hp
        obtain ⟨y, hy, hvy⟩ := hR.cell hc hb2
        obtain ⟨hz, hR'⟩ := hR.store1 (x := .int .u32 m) hc hst hb2 rfl rfl
        have harg : args = #[.pointer (some ⟨b, off, none⟩), .int .u32 m] := by cases args; simpa using hxy
        subst harg
        exact .inr ⟨_, _, φ, run_call_store hf hname hb hn he hy hz, Phi.le.refl _, hR', undef_tuple⟩
    · cases h
  all_goals (first | contradiction | cases h)

#print axioms storeU32_ok
#print axioms draw_sound
end AM
