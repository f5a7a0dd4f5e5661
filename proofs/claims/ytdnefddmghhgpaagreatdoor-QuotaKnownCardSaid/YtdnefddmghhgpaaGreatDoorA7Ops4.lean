import Derived.Test.YtdnefddmghhgpaaGreatDoorA7Ops3
namespace AM
open Go Go.RowKit
set_option linter.unusedVariables false
set_option linter.unusedSimpArgs false
variable {P : Program} {φ : Phi} {tm : T V} {a : Act} {w : World} {w0 : Base} {σ : St} {G B : Nat}

/-- what an operation that changes memory comes to -/
def Does (P : Program) (a : Act) (o : Oper) (G B : Nat) (w0 : Base) (φ : Phi) (σ' : St) (v : V) (w : World) : Prop :=
  ∃ x w' φ', ((execOp a.eval o).run P w = .ok (.value x) w' ∨ ((execOp a.eval o).run P w = .ok .skip w' ∧ x = Go.undef)) ∧ φ.le φ' ∧ Rel G B w0 φ' σ' w' ∧ VR φ' v x

theorem repeatZ_length (z : List V) : ∀ n, (repeatZ z n).length = n * z.length
  | 0 => by simp [repeatZ]
  | n + 1 => by simp [repeatZ, repeatZ_length z n, Nat.add_mul]; omega

theorem repeatZ_get (z : List V) (hz : 0 < z.length) : ∀ n i, i < n * z.length → (repeatZ z n)[i]? = z[i % z.length]?
  | 0, i, h => by simp at h
  | n + 1, i, h => by
    simp only [repeatZ]
    by_cases c : i < z.length
    · rw [List.getElem?_append_left c, Nat.mod_eq_of_lt c]
    · rw [List.getElem?_append_right (by omega), repeatZ_get z hz n (i - z.length) (by rw [Nat.add_mul] at h; omega)]
      congr 1
      have := Nat.add_mod_right (i - z.length) z.length
      rw [Nat.sub_add_cancel (by omega)] at this
      exact this.symm

theorem zrow_get (zs : Array Value) (n : Nat) (i : Nat) (h : i < n) (hz : 0 < zs.size) : ((Array.range n).map (fun j => zs[j % zs.size]!))[i]? = zs.toList[i % zs.toList.length]? := by
  have hm : i % zs.size < zs.size := Nat.mod_lt _ hz
  simp [h, hm]

theorem zrow_rel {z : List V} {zs : Array Value} (hr : LR φ z zs.toList) (n : Nat) : LR φ (repeatZ z n) ((Array.range (n * zs.size)).map (fun j => zs[j % zs.size]!)).toList := by
  have hl := hr.length
  have hl' : zs.size = z.length := by simpa using hl
  refine LR.of_get (by simp [repeatZ_length, hl']) fun i v hi => ?_
  have hlt : i < n * z.length := by
    rcases Nat.lt_or_ge i (n * z.length) with k | k
    · exact k
    · rw [List.getElem?_eq_none (by rw [repeatZ_length]; exact k)] at hi; cases hi
  have hz : 0 < z.length := by
    rcases Nat.eq_zero_or_pos z.length with k | k
    · rw [k] at hlt; omega
    · exact k
  rw [repeatZ_get z hz n i hlt] at hi
  obtain ⟨x, hx, hv⟩ := hr.get _ v hi
  refine ⟨x, ?_, hv⟩
  have := zrow_get zs (n * zs.size) i (by rw [hl']; exact hlt) (by omega)
  rw [Array.getElem?_toList, this, hl]; exact hx

theorem Rel.next_none (h : Rel G B w0 φ σ w) : φ σ.next = none := by
  cases hc : φ σ.next with
  | none => rfl
  | some x => obtain ⟨b, m⟩ := x; have := (h.dom _ _ _ hc).1; omega

/-! ### maps -/
theorem Rel.setObj (h : Rel G B w0 φ σ w) {r b n : Nat} {o o' : Obj} {O : Go.Obj} (ho : σ.objs.get r = some o) (hm : o.mut = true) (hg : o.grp = 0) (ha : φ r = some (b, n)) (hBb : B ≤ b)
    (hg' : o'.grp = 0) (hR : ({ w with heap := w.heap.setIfInBounds b O } : World).heap[b]? = some O → ObjR w0.P φ B b n { w with heap := w.heap.setIfInBounds b O } o') :
    Rel G B w0 φ { σ with objs := σ.objs.set r o' } { w with heap := w.heap.setIfInBounds b O } := by
  have hb := (h.dom r b n ha).2
  have oth : ∀ k, k ≠ b → ({ w with heap := w.heap.setIfInBounds b O } : World).heap[k]? = w.heap[k]? := by
    intro k hk; simp only; rw [Array.getElem?_setIfInBounds_ne (Ne.symm hk)]
  have same : ({ w with heap := w.heap.setIfInBounds b O } : World).heap[b]? = some O := by
    simp only; rw [Array.getElem?_setIfInBounds_self]; simp [hb]
  have hR := hR same
  have key : ∀ x q, (σ.objs.set r o').get x = some q → (x = r ∧ q = o') ∨ (x ≠ r ∧ σ.objs.get x = some q) := by
    intro x q hx
    rw [T.get_set] at hx
    by_cases e : x = r
    · rw [if_pos e] at hx; simp at hx; exact .inl ⟨e, hx.symm⟩
    · rw [if_neg e] at hx; exact .inr ⟨e, hx⟩
  refine ⟨h.below.trans ⟨rfl, rfl, rfl, by simp, fun k hk => oth k (by omega)⟩, by simp; exact h.B_le, by intro a b n hab; simpa using h.dom a b n hab, h.glob, ?_, ?_, ?_, ?_, h.gfresh, h.pend⟩
  · intro x q b' n' hx hab
    rcases key x q hx with ⟨rfl, rfl⟩ | ⟨hne, hx'⟩
    · rw [ha] at hab; simp at hab; obtain ⟨rfl, rfl⟩ := hab
      exact hR
    · cases hl : q.live with
      | false => cases q <;> simp_all [Obj.live, ObjR]
      | true =>
        have hbb : b' ≠ b := by
          rintro rfl
          have := h.sep r x _ q b' n n' (Ne.symm hne) ho hx' hm hl ha hab
          exact this.1 hg
        exact (h.obj x q b' n' hx' hab).of_block (oth b' hbb)
  · intro x hx
    simp only at hx ⊢
    rw [T.get_set, if_neg (by have := h.lt ho; omega)]; exact h.fresh x hx
  · intro x y o1 o2 b1 n1 n2 hne k1 k2 hm1 hl h1 h2
    have f1 : ∃ q, σ.objs.get x = some q ∧ q.mut = true ∧ q.grp = o1.grp := by
      rcases key x o1 k1 with ⟨rfl, rfl⟩ | ⟨_, k⟩
      · exact ⟨_, ho, hm, hg.trans hg'.symm⟩
      · exact ⟨_, k, hm1, rfl⟩
    have f2 : ∃ q, σ.objs.get y = some q ∧ q.live = true ∧ q.grp = o2.grp := by
      rcases key y o2 k2 with ⟨rfl, rfl⟩ | ⟨_, k⟩
      · exact ⟨_, ho, Obj.mut_live hm, hg.trans hg'.symm⟩
      · exact ⟨_, k, hl, rfl⟩
    obtain ⟨q1, a1, a2, a3⟩ := f1
    obtain ⟨q2, c1, c2, c3⟩ := f2
    have := h.sep x y q1 q2 b1 n1 n2 hne a1 c1 a2 c2 h1 h2
    exact ⟨a3 ▸ this.1, by rw [← a3, ← c3]; exact this.2⟩
  · intro x o1 k1 hgx
    rcases key x o1 k1 with ⟨rfl, rfl⟩ | ⟨_, k⟩
    · exact (hgx hg').elim
    · exact h.grp x o1 k hgx

theorem Rel.setMap (h : Rel G B w0 φ σ w) {r b n : Nat} {es es' : List (V × V)} {bs bs' : List Nat} {ck clock' : Nat} {m' : Array MapEntry} (ho : σ.objs.get r = some (.map es bs ck)) (ha : φ r = some (b, n)) (hER : ER φ es' m'.toList)
    (hb : m'.toList.map (·.born) = bs') :
    Rel G B w0 φ { σ with objs := σ.objs.set r (.map es' bs' clock') } { w with heap := w.heap.setIfInBounds b (.map m' clock') } := by
  obtain ⟨hB, m, hM, _⟩ := h.mapObj ho ha
  exact h.setObj ho rfl rfl ha hB rfl (fun hs => ⟨hB, m', hs, hER, hb⟩)

theorem run_setObj_map {b : Nat} {m : Array MapEntry} {clock : Nat} {o : Go.Obj} (h : w.heap[b]? = some (.map m clock)) : (setObj b o).run P w = .ok () { w with heap := w.heap.setIfInBounds b o } := by
  simp only [setObj, Sem.run, h]

theorem ER.push {es : List (V × V)} {m : Array MapEntry} {k v : V} {e : MapEntry} (h : ER φ es m.toList) (hk : VR φ k e.key) (hv : VR φ v e.val) : ER φ (es ++ [(k, v)]) (m.push e).toList := by
  refine ⟨by have := h.1; simp at this ⊢; omega, fun i x y hi => ?_⟩
  have hl := h.1
  by_cases c : i < es.length
  · rw [List.getElem?_append_left c] at hi
    obtain ⟨e', he, h1, h2⟩ := h.2 i x y hi
    refine ⟨e', ?_, h1, h2⟩
    rw [Array.toList_push, List.getElem?_append_left (by omega)]; exact he
  · rw [List.getElem?_append_right (by omega)] at hi
    have : i = es.length := by
      rcases Nat.lt_or_ge i (es.length + 1) with k' | k'
      · omega
      · rw [List.getElem?_eq_none (by simp; omega)] at hi; cases hi
    subst this
    simp at hi; obtain ⟨rfl, rfl⟩ := hi
    refine ⟨e, ?_, hk, hv⟩
    rw [Array.toList_push, List.getElem?_append_right (by omega), hl]; simp

theorem ER.set {es : List (V × V)} {m : Array MapEntry} {k v : V} {i : Nat} {f : MapEntry → MapEntry} {e : MapEntry} (h : ER φ es m.toList) (he : m[i]? = some e) (hk : VR φ k (f e).key) (hv : VR φ v (f e).val) :
    ER φ (es.set i (k, v)) (m.modify i f).toList := by
  have hl := h.1
  refine ⟨by simp at hl ⊢; exact hl, fun j x y hj => ?_⟩
  have hi : i < m.size := by
    rcases Nat.lt_or_ge i m.size with k' | k'
    · exact k'
    · rw [Array.getElem?_eq_none k'] at he; cases he
  by_cases c : j = i
  · subst c
    rw [List.getElem?_set_self (by simp at hl; omega)] at hj
    simp at hj; obtain ⟨rfl, rfl⟩ := hj
    exact ⟨f e, by simp [Array.getElem?_modify, he], hk, hv⟩
  · rw [List.getElem?_set_ne (Ne.symm c)] at hj
    obtain ⟨e', he', h1, h2⟩ := h.2 j x y hj
    refine ⟨e', ?_, h1, h2⟩
    rw [Array.toList_modify, List.getElem?_modify, he']; simp [Ne.symm c]

theorem ER.erase {es : List (V × V)} {m : Array MapEntry} {i : Nat} (h : ER φ es m.toList) (hi : i < es.length) : ER φ (es.eraseIdx i) (m.eraseIdxIfInBounds i).toList := by
  have hl := h.1
  have hm : i < m.size := by simp at hl; omega
  have e : (m.eraseIdxIfInBounds i).toList = m.toList.eraseIdx i := by
    simp [Array.eraseIdxIfInBounds, hm]
  rw [e]
  refine ⟨by rw [List.length_eraseIdx, List.length_eraseIdx, hl], fun j x y hj => ?_⟩
  rw [List.getElem?_eraseIdx] at hj
  split at hj
  · rename_i c
    obtain ⟨e', h1, h2⟩ := h.2 j x y hj
    exact ⟨e', by rw [List.getElem?_eraseIdx, if_pos c]; exact h1, h2⟩
  · rename_i c
    obtain ⟨e', h1, h2⟩ := h.2 (j + 1) x y hj
    exact ⟨e', by rw [List.getElem?_eraseIdx, if_neg c]; exact h1, h2⟩

theorem sameBits_key {kk : Kk} {x y : V} {X Y : Value} (h : keyEq kk x y = some true) (hx : VR φ x X) (hy : VR φ y Y) (n : Nat) : Instr.sameBits n Y X = true := by
  unfold keyEq at h
  split at h
  · rename_i k p k' q
    have hx : X = .int k p := hx
    have hy : Y = .int k' q := hy
    subst hx; subst hy
    split at h
    · rename_i hk; subst hk; simp at h; subst h; simp [Instr.sameBits]
    · cases h
  · obtain ⟨bx, rfl, rfl⟩ := hx
    obtain ⟨bY, rfl, rfl⟩ := hy
    have : (bx == bY) = true := by rw [bytes_beq]; simpa using h
    have h2 : (bY == bx) = true := by rw [bytes_beq] at this ⊢; rw [beq_iff_eq] at this ⊢; exact this.symm
    cases n <;> simpa [Instr.sameBits] using h2
  · rename_i p q
    have hx : X = .bool p := hx
    have hy : Y = .bool q := hy
    subst hx; subst hy
    simp at h; subst h; simp [Instr.sameBits]
  · cases h
end AM
