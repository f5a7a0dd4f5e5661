import Derived.Test.YtdnefddmghhgpaaGreatDoorA7Draw2
import Derived.Laws.LoneSync
namespace AM
open Go Go.RowKit Go.Conc.Locks
set_option linter.unusedVariables false
set_option linter.unusedSimpArgs false
variable {P : Program} {φ : Phi} {w : World} {w0 : Base} {σ σ' : St} {G B : Nat}

theorem Rel.store1 (h : Rel G B w0 φ σ w) {id off b n : Nat} {u v : V} {x : Value} (hc : σ.cell id off = some u) (hs : σ.store id off [v] = some σ') (ha : φ id = some (b, n)) (hv : VR φ v x) (hx : x.oneCell' = true) :
    w.frozen? ⟨b, off, none⟩ = false ∧ Rel G B w0 φ σ' (w.setCell ⟨b, off, none⟩ x) := by
  obtain ⟨y, hy, _⟩ := h.cell hc ha
  obtain ⟨w', hrun, hR⟩ := h.store (P := (default : Program)) hs ha (LR.cons hv LR.nil)
  have h0 : (⟨b, off, none⟩ : Addr).add 0 = ⟨b, off, none⟩ := add_none b off 0
  simp only [storeCells, h0, Sem.run_bind, Sem.run_pure] at hrun
  rw [run_store (default : Program) w ⟨b, off, none⟩ x .plain hx, hy] at hrun
  cases hf : w.frozen? ⟨b, off, none⟩ with
  | true => rw [hf] at hrun; simp [Result.andThen] at hrun
  | false =>
    rw [hf] at hrun
    simp [Result.andThen] at hrun
    subst hrun
    exact ⟨rfl, hR⟩

theorem LR.one {v : V} {l : List Value} (h : LR φ [v] l) : ∃ x, l = [x] ∧ VR φ v x := by
  obtain ⟨x, s, rfl, h1, h2⟩ := h; cases h2; exact ⟨x, rfl, h1⟩
theorem LR.two {u v : V} {l : List Value} (h : LR φ [u, v] l) : ∃ x y, l = [x, y] ∧ VR φ u x ∧ VR φ v y := by
  obtain ⟨x, s, rfl, h1, h2⟩ := h
  obtain ⟨y, rfl, h3⟩ := LR.one h2
  exact ⟨x, y, rfl, h1, h3⟩

theorem addr_ptr {id off : Nat} {x : Value} (h : VR φ (.ptr (some (id, off))) x) : ∃ b n, φ id = some (b, n) ∧ x = .pointer (some ⟨b, off, none⟩) := h

theorem undef_tuple : VR φ (.tuple []) (.tuple #[]) := ⟨#[], rfl, rfl⟩

theorem lock_ok {L : MuLink} (H : MuLib P L) {xs : List V} {v : V} (h : extCall .lock xs σ = some (v, σ')) : Plain1 P G L.lock xs σ v σ' := by
  intro B w0 φ w args hP hR hL
  unfold extCall at h
  split at h
  · rename_i id off he
    split at h
    · rename_i hc
      obtain ⟨⟨⟩⟩ := he
      cases hst : σ.store id off [.int .i32 1] with
      | none => rw [hst] at h; simp at h
      | some σ2 =>
        rw [hst] at h; simp at h; obtain ⟨rfl, rfl⟩ := h
        obtain ⟨x, hx, hp⟩ := LR.one hL
        obtain ⟨b, n, hb, rfl⟩ := addr_ptr hp
        obtain ⟨y, hy, hvy⟩ := hR.cell hc hb
        cases hvy
        obtain ⟨hz, hR'⟩ := hR.store1 (x := .int .i32 1) hc hst hb rfl rfl
        have harg : args = #[.pointer (some ⟨b, off, none⟩)] := by cases args; simpa using hx
        subst harg
        left
        refine ⟨MuLone.run_callFunc_enter (P := P) H.f_lock (by kernel_rfl) rfl _ w, ?_⟩
        refine (MuLone.lock_free H ⟨b, off, none⟩ w hy hz).mono ?_
        rintro e w' ⟨rfl, rfl⟩
        exact ⟨φ, _, rfl, Phi.le.refl _, hR', undef_tuple⟩
    · cases h
  all_goals (first | contradiction | cases h)

theorem unlock_ok {L : MuLink} (H : MuLib P L) {xs : List V} {v : V} (h : extCall .unlock xs σ = some (v, σ')) : Plain1 P G L.unlock xs σ v σ' ∧ Def1 P G L.unlock xs σ v σ' := by
  have key : ∀ B w0 φ w (args : Array Value), Rel G B w0 φ σ w → LR φ xs args.toList → ∃ a, args = #[.pointer (some a)] ∧ w.cell? a = some (.int .i32 1) ∧ w.frozen? a = false ∧ v = .tuple [] ∧ Rel G B w0 φ σ' (w.setCell a (.int .i32 0)) := by
    intro B w0 φ w args hR hL
    unfold extCall at h
    split at h
    · contradiction
    · rename_i id off he
      split at h
      · rename_i hc
        obtain ⟨⟨⟩⟩ := he
        cases hst : σ.store id off [.int .i32 0] with
        | none => rw [hst] at h; simp at h
        | some σ2 =>
          rw [hst] at h; simp at h; obtain ⟨rfl, rfl⟩ := h
          obtain ⟨x, hx, hp⟩ := LR.one hL
          obtain ⟨b, n, hb, rfl⟩ := addr_ptr hp
          obtain ⟨y, hy, hvy⟩ := hR.cell hc hb
          cases hvy
          obtain ⟨hz, hR'⟩ := hR.store1 (x := .int .i32 0) hc hst hb rfl rfl
          exact ⟨_, by cases args; simpa using hx, hy, hz, rfl, hR'⟩
      · cases h
    all_goals (first | contradiction | cases h)
  refine ⟨?_, fun args w => MuLone.run_callFunc_enter (P := P) H.f_unlock (by kernel_rfl) rfl _ w, ?_⟩
  · intro B w0 φ w args hP hR hL
    obtain ⟨a, rfl, hc, hz, rfl, hR'⟩ := key B w0 φ w args hR hL
    left
    refine ⟨MuLone.run_callFunc_enter (P := P) H.f_unlock (by kernel_rfl) rfl _ w, ?_⟩
    refine (MuLone.unlock_held H a w hc hz).mono ?_
    rintro e w' ⟨rfl, rfl⟩
    exact ⟨φ, _, rfl, Phi.le.refl _, hR', undef_tuple⟩
  · intro B w0 φ w args hP hR hL
    obtain ⟨a, rfl, hc, hz, rfl, hR'⟩ := key B w0 φ w args hR hL
    refine (MuLone.unlock_deferred H a .returning w hc hz).mono ?_
    rintro e u w' ⟨rfl, rfl, rfl⟩
    exact ⟨rfl, φ, _, rfl, Phi.le.refl _, hR', undef_tuple⟩

theorem loadU32_ok {g : FuncId} {fn : Func} (hf : P.funcs[g]? = some fn) (hname : (fn.name == "runtime.NumGoroutine") = false) (hb : fn.body.isNone = true) (hn : Extern.findNext fn = none)
    (he : Extern.find fn = some (Extern.Atomic.loadT (.int .u32))) {xs : List V} {v : V} (h : extCall .loadU32 xs σ = some (v, σ')) : Plain1 P G g xs σ v σ' := by
  intro B w0 φ w args hP hR hL
  unfold extCall at h
  split at h
  · contradiction
  · contradiction
  · rename_i id off hx
    split at h
    · rename_i k hc
      obtain ⟨⟨⟩⟩ := hx
      simp at h; obtain ⟨rfl, rfl⟩ := h
      obtain ⟨x, hx, hp⟩ := LR.one hL
      obtain ⟨b, n, hb2, rfl⟩ := addr_ptr hp
      obtain ⟨y, hy, hvy⟩ := hR.cell hc hb2
      cases hvy
      have harg : args = #[.pointer (some ⟨b, off, none⟩)] := by cases args; simpa using hx
      subst harg
      exact .inr ⟨_, w, φ, run_call_load hf hname hb hn .u32 he hy, Phi.le.refl _, hR, rfl⟩
    · cases h
  all_goals (first | contradiction | cases h)

theorem storeU32_ok {g : FuncId} {fn : Func} (hf : P.funcs[g]? = some fn) (hname : (fn.name == "runtime.NumGoroutine") = false) (hb : fn.body.isNone = true) (hn : Extern.findNext fn = none)
    (he : Extern.find fn = some Extern.Atomic.storeT) {xs : List V} {v : V} (h : extCall .storeU32 xs σ = some (v, σ')) : Plain1 P G g xs σ v σ' := by
  intro B w0 φ w args hP hR hL
  unfold extCall at h
  split at h
  · contradiction
  · contradiction
  · contradiction
  · rename_i id off m hx
    split at h
    · rename_i k hc
      obtain ⟨⟨⟩⟩ := hx
      cases hst : σ.store id off [.int .u32 m] with
      | none => rw [hst] at h; simp at h
      | some σ2 =>
        rw [hst] at h; simp at h; obtain ⟨rfl, rfl⟩ := h
        obtain ⟨x, y, hxy, hp, hq⟩ := LR.two hL
        cases hq
        obtain ⟨b, n, hb2, rfl⟩ := addr_ptr hp
        obtain ⟨y, hy, hvy⟩ := hR.cell hc hb2
        obtain ⟨hz, hR'⟩ := hR.store1 (x := .int .u32 m) hc hst hb2 rfl rfl
        have harg : args = #[.pointer (some ⟨b, off, none⟩), .int .u32 m] := by cases args; simpa using hxy
        subst harg
        exact .inr ⟨_, _, φ, run_call_store hf hname hb hn he hy hz, Phi.le.refl _, hR', undef_tuple⟩
    · cases h
  all_goals (first | contradiction | cases h)

/-! ### reflectlite's rows, for slices of one type -/
section reflectlite
variable {g : FuncId} {fn : Func} {t e : TypeId}

theorem info_of {d : TypeDesc} (h : (P.info? t).map (·.desc) = some d) : ∃ i, P.info? t = some i ∧ i.desc = d := by
  cases hi : P.info? t with
  | none => rw [hi] at h; cases h
  | some i => rw [hi] at h; simp at h; exact ⟨i, rfl, h⟩

theorem under_run {d : TypeDesc} (h : (P.info? t).map (·.desc) = some d) (hn : ∀ a b, d ≠ .named a b) (w : World) : ∃ i, (Extern.Rtype.under t).run P w = .ok (t, i) w ∧ P.info? t = some i ∧ i.desc = d := by
  obtain ⟨i, hi, hd⟩ := info_of h
  refine ⟨i, ?_, hi, hd⟩
  have hti : (typeInfo t).run P w = .ok i w := by simp [typeInfo, program, Sem.run, hi, Result.andThen]
  simp only [Extern.Rtype.under, Sem.run_bind, hti, Result.andThen_ok]
  rw [hd]
  cases d <;> first | rfl | exact (hn _ _ rfl).elim

theorem method_eq (zero : Sem Value) (f : TypeId → Addr → Nat → Nat → Sem Value) (v : Value) : Extern.ReflectliteValue.method zero f #[v] = (do match ← Extern.ReflectliteValue.parts v with
    | none => zero
    | some (t, a, fl) => f t a fl (fl % 32)) := rfl
theorem partsAny_eq (h : Value) (a : Addr) : Extern.ReflectliteValue.partsAny (.agg #[h, .pointer (some a), .int .u64 151]) = (do pure (some (← Extern.Rtype.ofHandle h, a, 151))) := rfl
def swapBody (pkg : String) (noSlice : Nat → Sem Value) (t : TypeId) (s : Value) (n : Nat) : Option TypeId → Sem Value
  | some e => do
    let i ← typeInfo e
    let isString := (← Extern.Rtype.kind e) == 24
    let k : Nat :=
      if n == 0 then 1 else if n == 1 then 2
      else if i.hasPointers && i.bytes == 8 then 3
      else if i.hasPointers && isString then 4
      else if i.hasPointers then 9
      else match i.bytes with | 8 => 5 | 4 => 6 | 2 => 7 | 1 => 8 | _ => 9
    let h ← Extern.Rtype.handle e
    Extern.ReflectliteSwapper.literal pkg k (if k ≤ 2 then #[] else #[s, h])
  | none => do noSlice (← Extern.Rtype.kind t)
theorem swapper_eq (pkg : String) (noSlice : Nat → Sem Value) (t : TypeId) (ad : Option Addr) (n c : Nat) : Extern.ReflectliteSwapper.swapper pkg noSlice #[.iface t (.slice ad n c)] = (do swapBody pkg noSlice t (.slice ad n c) n (← Extern.Rtype.elem? t)) := by
  show (do let q ← Extern.Rtype.elem? t; _) = _
  congr 1
  funext q
  cases q <;> rfl
theorem swap_eq (i j : Int) (a : Addr) (n c : Nat) (h : Value) : Extern.ReflectliteSwapper.swap true #[.int .i64 i, .int .i64 j, .slice (some a) n c, h] = (do
    if i < 0 || i ≥ n then boundsPanic .i64 i n .index
    if j < 0 || j ≥ n then boundsPanic .i64 j n .index
    Extern.ReflectliteSwapper.exchange (← Extern.Rtype.ofHandle h) a i.toNat j.toNat) := rfl

theorem kind_slice (h : (P.info? t).map (·.desc) = some (.slice e)) (w : World) : (Extern.Rtype.kind t).run P w = .ok 23 w := by
  obtain ⟨i, hu, hi, hd⟩ := under_run h (by simp) w
  simp only [Extern.Rtype.kind, Sem.run_bind, hu, Result.andThen_ok, hd]
  rfl

theorem valueOf_ok (hf : P.funcs[g]? = some fn) (hname : (fn.name == "runtime.NumGoroutine") = false) (hb : fn.body.isNone = true) (hn : Extern.findNext fn = none)
    (he : Extern.find fn = some (fun args => Extern.ReflectliteValue.unpack (args.getD 0 (.tuple #[])))) (hd : (P.info? t).map (·.desc) = some (.slice e)) {Gs : Nat} (hGs : Gs = P.globals.size) (hG : P.globals.size < G) {xs : List V} {v : V}
    (h : extCall (.valueOf t Gs) xs σ = some (v, σ')) : Plain1 P G g xs σ v σ' := by
  subst hGs
  intro B w0 φ w args hP hR hL
  unfold extCall at h
  split at h
  all_goals (first | (cases h; done) | skip)
  all_goals (rename_i heq; cases heq)
  rename_i t' a n z
  split at h
  · rename_i ht
    subst ht
    cases h
    obtain ⟨x, hx, hv⟩ := LR.one hL
    obtain ⟨y, rfl, hy⟩ := hv
    have harg : args = #[.iface t' y] := by cases args; simpa using hx
    subst harg
    have hyc := VR.cells hy
    have hnew := hR.newCells [.slice a n z] y.cells.toList [] t' hyc
    simp only [List.append_nil, Array.toArray_toList] at hnew
    obtain ⟨n0, hn0⟩ := (hR.glob P.globals.size hG).2
    refine .inr ⟨.agg #[.pointer (some ⟨P.globals.size, t', none⟩), .pointer (some ⟨w.heap.size, 0, none⟩), .int .u64 151], _, _, ?_, hnew.2, hnew.1, ?_⟩
    · rw [run_callFunc_extern hf hname hb hn he]
      have hk := kind_slice hd (w.alloc (.cells y.cells t'))
      simp [Extern.ReflectliteValue.unpack, Extern.ReflectliteValue.mk, newVar, newRow, Extern.Rtype.handle, typeHandle, program, Sem.run, hk, Result.andThen, Extern.ReflectliteValue.flagIndir]
    · exact ⟨_, rfl, LR.cons ⟨_, _, hnew.2 _ _ hn0, rfl⟩ (LR.cons ⟨_, _, Phi.upd_same _ _ _, rfl⟩ (LR.cons rfl LR.nil))⟩
  · cases h

theorem vlen_ok (hf : P.funcs[g]? = some fn) (hname : (fn.name == "runtime.NumGoroutine") = false) (hb : fn.body.isNone = true) (hn : Extern.findNext fn = none)
    (he : Extern.find fn = some (Extern.ReflectliteValue.method (Extern.ReflectliteValue.valueError "reflectlite.Value.Len" 0) Extern.ReflectliteValue.len)) (hd : (P.info? t).map (·.desc) = some (.slice e)) (hp : P.packed t = false) (hund : P.underlying t = some (.slice e)) {Gs : Nat} (hGs : Gs = P.globals.size) (hG : P.globals.size < G) {xs : List V} {v : V}
    (h : extCall (.vlen t Gs) xs σ = some (v, σ')) : Plain1 P G g xs σ v σ' := by
  subst hGs
  intro B w0 φ w args hP hR hL
  unfold extCall at h
  split at h
  all_goals (first | (cases h; done) | skip)
  all_goals (rename_i heq; cases heq)
  rename_i g' t' id off
  split at h
  · rename_i hc
    obtain ⟨rfl, rfl⟩ := hc
    split at h
    · rename_i q n z hcell
      cases h
      obtain ⟨x, hx, hv⟩ := LR.one hL
      obtain ⟨C, rfl, hC⟩ := hv
      obtain ⟨x1, s1, hs1, h1, hr1⟩ := hC
      obtain ⟨x2, s2, hs2, h2, hr2⟩ := hr1
      obtain ⟨x3, hs3, h3⟩ := LR.one hr2
      subst hs2; subst hs3
      obtain ⟨b1, n1, hb1, rfl⟩ := h1
      obtain ⟨b2, n2, hb2, rfl⟩ := h2
      have h3 : x3 = .int .u64 151 := h3
      subst h3
      obtain ⟨n0, hn0⟩ := (hR.glob P.globals.size hG).2
      rw [hn0] at hb1; cases hb1
      have hC : C = #[.pointer (some ⟨P.globals.size, t', none⟩), .pointer (some ⟨b2, off, none⟩), .int .u64 151] := by cases C; simpa using hs1
      subst hC
      have harg : args = #[.agg #[.pointer (some ⟨P.globals.size, t', none⟩), .pointer (some ⟨b2, off, none⟩), .int .u64 151]] := by cases args; simpa using hx
      subst harg
      obtain ⟨y, hy, hvy⟩ := hR.cell hcell hb2
      have hsl : ∃ ad c, y = .slice ad n c := by
        cases q with
        | none => obtain ⟨h0, hh⟩ := hvy; subst h0; exact ⟨_, _, hh⟩
        | some q => obtain ⟨q1, q2⟩ := q; obtain ⟨b0, n0, o0, c0, _, hh, _⟩ := hvy; exact ⟨_, _, hh⟩
      obtain ⟨ad, c, rfl⟩ := hsl
      refine .inr ⟨.int .i64 n, w, φ, ?_, Phi.le.refl _, hR, rfl⟩
      rw [run_callFunc_extern hf hname hb hn he]
      obtain ⟨i, hu, hi, hdi⟩ := under_run hd (by simp) w
      have hagg : (isAgg t').run P w = .ok false w := by simp [isAgg, run_underlying' hund]
      have hld : (loadVar t' ⟨b2, off, none⟩).run P w = .ok (.slice ad n c) w := by
        simp only [loadVar, Sem.run_bind, hagg, Result.andThen_ok, Bool.false_eq_true, if_false, run_load, hy]
      have hpart : (Extern.ReflectliteValue.parts (.agg #[.pointer (some ⟨P.globals.size, t', none⟩), .pointer (some ⟨b2, off, none⟩), .int .u64 151])).run P w = .ok (some (t', ⟨b2, off, none⟩, 151)) w := by
        have hoh : (Extern.Rtype.ofHandle (.pointer (some ⟨P.globals.size, t', none⟩))).run P w = .ok t' w := by
          simp [Extern.Rtype.ofHandle, handleType, program, Sem.run, Result.andThen]
        have hpa : (Extern.ReflectliteValue.partsAny (.agg #[.pointer (some ⟨P.globals.size, t', none⟩), .pointer (some ⟨b2, off, none⟩), .int .u64 151])).run P w = .ok (some (t', ⟨b2, off, none⟩, 151)) w := by
          rw [partsAny_eq]
          simp only [Sem.run_bind, hoh, Result.andThen_ok, Sem.run_pure]
        have hnp : (Extern.Rtype.noPack "a Value asked or handed on" t').run P w = .ok () w := by
          simp only [Extern.Rtype.noPack, Sem.run_bind, program, Sem.run, Result.andThen_ok, hp, Bool.false_eq_true, if_false]
          rfl
        unfold Extern.ReflectliteValue.parts
        simp only [Sem.run_bind, hpa, Result.andThen_ok, hnp, Sem.run_pure]
      have hlen : (Extern.ReflectliteValue.len t' ⟨b2, off, none⟩ 151 23).run P w = .ok (.int .i64 n) w := by
        have hc : (!([17, 18, 21, 23, 24].contains 23)) = false := by decide
        have hb : (Builtin.len_ #[t'] 0 #[.slice ad n c]).run P w = .ok (.int .i64 n) w := by
          simp [Builtin.len_, run_underlying' hund, goInt]
        simp only [Extern.ReflectliteValue.len, hc, Bool.false_eq_true, if_false, Sem.run_bind, Sem.run_pure, Result.andThen_ok, hu, hdi, hld, hb]
      rw [method_eq]
      simp only [Sem.run_bind, hpart, Result.andThen_ok]
      rw [show (151 % 32 : Nat) = 23 from rfl, hlen]
      rfl
    · cases h
  · cases h

theorem swapper_ok {f1 f2 f5 : FuncId} (hf : P.funcs[g]? = some fn) (hname : (fn.name == "runtime.NumGoroutine") = false) (hb : fn.body.isNone = true) (hn : Extern.findNext fn = none)
    (he : Extern.find fn = some (Extern.ReflectliteSwapper.swapper "internal/reflectlite" (Extern.ReflectliteValue.valueError "Swapper"))) (hd : (P.info? t).map (·.desc) = some (.slice e)) (hde : (P.info? e).map (fun i => (i.desc, i.hasPointers, i.bytes)) = some (.int .u64, false, 8))
    (h1 : P.funcs.findIdx? (fun f => f.name == "internal/reflectlite.Swapper$1") = some f1) (h2 : P.funcs.findIdx? (fun f => f.name == "internal/reflectlite.Swapper$2") = some f2) (h5 : P.funcs.findIdx? (fun f => f.name == "internal/reflectlite.Swapper$5") = some f5)
    {Gs : Nat} (hGs : Gs = P.globals.size) (hG : P.globals.size < G) {xs : List V} {v : V}
    (h : extCall (.swapper t e Gs f1 f2 f5) xs σ = some (v, σ')) : Plain1 P G g xs σ v σ' := by
  subst hGs
  intro B w0 φ w args hP hR hL
  unfold extCall at h
  split at h
  all_goals (first | (cases h; done) | skip)
  all_goals (rename_i heq; cases heq)
  rename_i t' a n z
  split at h
  · rename_i ht
    subst ht
    cases h
    obtain ⟨x, hx, hv⟩ := LR.one hL
    obtain ⟨y, rfl, hy⟩ := hv
    have harg : args = #[.iface t' y] := by cases args; simpa using hx
    subst harg
    have hsl : ∃ ad c, y = .slice ad n c := by
      cases a with
      | none => obtain ⟨h0, hh⟩ := hy; subst h0; exact ⟨_, _, hh⟩
      | some q => obtain ⟨q1, q2⟩ := q; obtain ⟨b0, n0, o0, c0, _, hh, _⟩ := hy; exact ⟨_, _, hh⟩
    obtain ⟨ad, c, hyy⟩ := hsl
    obtain ⟨n0, hn0⟩ := (hR.glob P.globals.size hG).2
    obtain ⟨i, hu, hi, hdi⟩ := under_run hd (by simp) w
    obtain ⟨j, hj, hj1, hj2, hj3⟩ : ∃ j, P.info? e = some j ∧ j.desc = .int .u64 ∧ j.hasPointers = false ∧ j.bytes = 8 := by
      cases hj : P.info? e with
      | none => rw [hj] at hde; cases hde
      | some j => rw [hj] at hde; simp at hde; exact ⟨j, rfl, hde.1, hde.2.1, hde.2.2⟩
    obtain ⟨j', hu2, hi2, hdi2⟩ := under_run (P := P) (t := e) (d := .int .u64) (by rw [hj]; simp [hj1]) (by simp) w
    have hke : ∃ k, k ≠ 24 ∧ (Extern.Rtype.kind e).run P w = .ok k w := by
      simp only [Extern.Rtype.kind, Sem.run_bind, hu2, Result.andThen_ok, hdi2]
      by_cases c1 : j'.str == "uint"
      · exact ⟨7, by decide, by simp [c1]⟩
      · by_cases c2 : j'.str == "uintptr"
        · exact ⟨12, by decide, by simp [c1, c2]⟩
        · exact ⟨11, by decide, by simp [c1, c2]⟩
    obtain ⟨k, hk24, hk⟩ := hke
    have hel : (Extern.Rtype.elem? t').run P w = .ok (some e) w := by
      simp only [Extern.Rtype.elem?, Sem.run_bind, hu, Result.andThen_ok, hdi]
      rfl
    have hlit : ∀ (k : Nat) (f : FuncId) (bound : Array Value), P.funcs.findIdx? (fun f => f.name == "internal/reflectlite" ++ ".Swapper$" ++ toString k) = some f → (Extern.ReflectliteSwapper.literal "internal/reflectlite" k bound).run P w = .ok (.func (.func f) #[] bound) w := by
      intro k f bound hfi
      simp only [Extern.ReflectliteSwapper.literal, Sem.run_bind, program, Sem.run, Result.andThen_ok, hfi]
      rfl
    have hk24' : (k == 24) = false := by simpa using hk24
    have hte : (typeInfo e).run P w = .ok j w := by simp [typeInfo, program, Sem.run, hj, Result.andThen]
    have hrun : ∀ (kk : Nat) (f : FuncId), kk = (if n == 0 then 1 else if n == 1 then 2 else 5) → P.funcs.findIdx? (fun f => f.name == "internal/reflectlite" ++ ".Swapper$" ++ toString kk) = some f →
        (callFunc g #[.iface t' y]).run P w = .ok (.value (.func (.func f) #[] (if kk ≤ 2 then #[] else #[y, .pointer (some ⟨P.globals.size, e, none⟩)]))) w := by
      intro kk f hkk hfi
      rw [run_callFunc_extern hf hname hb hn he]
      have hl := hlit kk f (if kk ≤ 2 then #[] else #[y, .pointer (some ⟨P.globals.size, e, none⟩)]) hfi
      rw [hyy] at hl ⊢
      simp only [swapper_eq, swapBody, Sem.run_bind, hel, Result.andThen_ok, hte, hk, hk24', hj2, hj3, Bool.false_and, Bool.false_eq_true, if_false, Extern.Rtype.handle, typeHandle, program, Sem.run, ← hkk, Sem.run_pure]
      rw [hl]
      rfl
    by_cases c0 : n = 0
    · subst c0
      exact .inr ⟨_, w, φ, hrun 1 f1 rfl h1, Phi.le.refl _, hR, by simp; exact ⟨_, _, rfl, LR.nil, LR.nil⟩⟩
    · by_cases c1 : n = 1
      · subst c1
        exact .inr ⟨_, w, φ, hrun 2 f2 rfl h2, Phi.le.refl _, hR, by simp; exact ⟨_, _, rfl, LR.nil, LR.nil⟩⟩
      · refine .inr ⟨_, w, φ, hrun 5 f5 (by simp [c0, c1]) h5, Phi.le.refl _, hR, ?_⟩
        rw [if_neg c0, if_neg c1]
        exact ⟨_, _, rfl, LR.nil, LR.cons hy (LR.cons ⟨_, _, hn0, rfl⟩ LR.nil)⟩
  · cases h

theorem swap5_ok (hf : P.funcs[g]? = some fn) (hname : (fn.name == "runtime.NumGoroutine") = false) (hb : fn.body.isNone = true) (hn : Extern.findNext fn = none)
    (he : Extern.find fn = some (Extern.ReflectliteSwapper.swap true)) (hd : (P.info? e).map (fun i => (i.desc, i.size)) = some (.int .u64, 1)) (hund : P.underlying e = some (.int .u64)) {Gs : Nat} (hGs : Gs = P.globals.size) (hG : P.globals.size < G) {xs : List V} {v : V}
    (h : extCall (.swap5 e Gs) xs σ = some (v, σ')) : Plain1 P G g xs σ v σ' := by
  subst hGs
  intro B w0 φ w args hP hR hL
  unfold extCall at h
  split at h
  all_goals (first | (cases h; done) | skip)
  all_goals (rename_i heq; cases heq)
  rename_i i j id off n z g' e'
  split at h
  · rename_i hc
    obtain ⟨rfl, rfl, hi0, hin, hj0, hjn⟩ := hc
    split at h
    · rename_i x y hcx hcy
      split at h
      · rename_i σ1 hst1
        split at h
        · rename_i σ2 hst2
          cases h
          obtain ⟨x1, s1, hs1, h1, hr1⟩ := hL
          obtain ⟨x2, s2, hs2, h2, hr2⟩ := hr1
          obtain ⟨x3, x4, hs3, h3, h4⟩ := LR.two hr2
          subst hs2; subst hs3
          have h1 : x1 = .int .i64 i := h1
          have h2 : x2 = .int .i64 j := h2
          subst h1; subst h2
          obtain ⟨b, nb, o', cap, hb3, rfl, hlc, hfit, ho⟩ := h3
          obtain ⟨b4, n4, hb4, rfl⟩ := h4
          obtain ⟨n0, hn0⟩ := (hR.glob P.globals.size hG).2
          rw [hn0] at hb4; cases hb4
          have ho : o' = off := by rcases ho with h | ⟨h, _⟩; exact h; omega
          subst ho
          have harg : args = #[.int .i64 i, .int .i64 j, .slice (some ⟨b, o', none⟩) n cap, .pointer (some ⟨P.globals.size, e', none⟩)] := by cases args; simpa using hs1
          subst harg
          obtain ⟨X, hX, hvX⟩ := hR.cell hcx hb3
          obtain ⟨Y, hY, hvY⟩ := hR.cell hcy hb3
          obtain ⟨ii, hii, hi1, hi2⟩ : ∃ q, P.info? e' = some q ∧ q.desc = .int .u64 ∧ q.size = 1 := by
            cases hj : P.info? e' with
            | none => rw [hj] at hd; cases hd
            | some q => rw [hj] at hd; simp at hd; exact ⟨q, rfl, hd.1, hd.2⟩
          have hsz : ∀ w : World, (Go.sizeOf e').run P w = .ok 1 w := by intro w; simp [Go.sizeOf, typeInfo, program, Sem.run, hii, hi2, Result.andThen]
          have hagg : ∀ w : World, (isAgg e').run P w = .ok false w := by intro w; simp [isAgg, run_underlying' hund]
          -- flat cells
          have flat1 : ∀ {σ σ2 : St} {k : Nat} {u : V}, σ.store id k [u] = some σ2 → u.cells = [u] := by
            intro σ σ2 k u hs
            unfold St.store at hs
            split at hs
            · split at hs
              · rename_i hcc
                have := hcc.2
                cases u <;> first | rfl | (simp [V.flat] at this)
              · cases hs
            · cases hs
          have hcY : LR φ [y] Y.cells.toList := by have := VR.cells hvY; rwa [flat1 hst1] at this
          have hcX : LR φ [x] X.cells.toList := by have := VR.cells hvX; rwa [flat1 hst2] at this
          have lY : Y.cells.size = 1 := by have := hcY.length; simpa using this
          have lX : X.cells.size = 1 := by have := hcX.length; simpa using this
          obtain ⟨w1, hr1, hR1⟩ := hR.store (P := P) hst1 hb3 hcY
          obtain ⟨w2, hr2, hR2⟩ := hR1.store (P := P) hst2 hb3 hcX
          refine .inr ⟨.tuple #[], w2, φ, ?_, Phi.le.refl _, hR2, VR.undef⟩
          rw [run_callFunc_extern hf hname hb hn he]
          have hsx : ∀ w : World, (storeVar e' ⟨b, o' + i.toNat, none⟩ Y).run P w = (storeCells ⟨b, o' + i.toNat, none⟩ Y.cells.toList).run P w := by
            intro w; simp [storeVar, hsz, lY]
          have hsy : ∀ w : World, (storeVar e' ⟨b, o' + j.toNat, none⟩ X).run P w = (storeCells ⟨b, o' + j.toNat, none⟩ X.cells.toList).run P w := by
            intro w; simp [storeVar, hsz, lX]
          have hlx : (loadVar e' ⟨b, o' + i.toNat, none⟩).run P w = .ok X w := by simp only [loadVar, Sem.run_bind, hagg, Result.andThen_ok, Bool.false_eq_true, if_false, run_load, hX]
          have hly : (loadVar e' ⟨b, o' + j.toNat, none⟩).run P w = .ok Y w := by simp only [loadVar, Sem.run_bind, hagg, Result.andThen_ok, Bool.false_eq_true, if_false, run_load, hY]
          have hh : handleType P (.pointer (some ⟨P.globals.size, e', none⟩)) = some e' := by simp [handleType]
          have c1 : ¬ (i < 0) := by omega
          have c2 : ¬ (i ≥ (n : Int)) := by omega
          have c3 : ¬ (j < 0) := by omega
          have c4 : ¬ (j ≥ (n : Int)) := by omega
          simp [swap_eq, c1, c2, c3, c4, Extern.Rtype.ofHandle, program, Sem.run, hh, Result.andThen, Extern.ReflectliteSwapper.exchange, hsz, add_none, hlx, hly, hsx, hr1, hsy, hr2]
        · cases h
      · cases h
    · cases h
  · cases h
end reflectlite

#print axioms swap5_ok
#print axioms storeU32_ok
#print axioms draw_sound
end AM
