import Derived.Test.YtdnefddmghhgpaaGreatDoorA7Rel
namespace AM
open Go Go.RowKit
set_option linter.unusedVariables false
set_option linter.unusedSimpArgs false
variable {G B : Nat} {w0 : Base} {φ : Phi} {σ : St} {w : World} {P : Program}

theorem putN_get (vs : List V) : ∀ (t : T V) (off i : Nat), (putN t off vs).get i = if off ≤ i ∧ i < off + vs.length then vs[i - off]? else t.get i := by
  induction vs with
  | nil => intro t off i; simp [putN]; omega
  | cons v r ih =>
    intro t off i
    simp only [putN, ih, T.get_set, List.length_cons]
    by_cases h : i = off
    · subst h; rw [if_neg (by omega), if_pos rfl, if_pos (by omega)]; simp
    · by_cases h1 : off + 1 ≤ i ∧ i < off + 1 + r.length
      · rw [if_pos h1, if_pos (by omega)]
        obtain ⟨j, rfl⟩ : ∃ j, i = off + 1 + j := ⟨i - off - 1, by omega⟩
        rw [show off + 1 + j - (off + 1) = j by omega, show off + 1 + j - off = j + 1 by omega]; simp
      · rw [if_neg h1, if_neg h, if_neg (by omega)]

theorem ofList_get (vs : List V) (i : Nat) : (ofList vs).get i = vs[i]? := by
  unfold ofList
  rw [putN_get]
  by_cases h : i < vs.length
  · rw [if_pos (by omega)]; simp
  · rw [if_neg (by omega), List.getElem?_eq_none (by omega)]; rfl

theorem cellOf_ofList (vs : List V) (i : Nat) : cellOf vs.length [] (ofList vs) i = vs[i]? := by
  unfold cellOf
  rw [ofList_get]
  by_cases h : i < vs.length
  · rw [if_pos h]; simp [h]
  · rw [if_neg h, List.getElem?_eq_none (by omega)]

/-- a new row of cells, made of a list of related values (and more behind) -/
theorem Rel.newCells (h : Rel G B w0 φ σ w) (vs : List V) (xs rest : List Value) (E : TypeId) (hr : LR φ vs xs) :
    Rel G B w0 (φ.upd σ.next (w.heap.size, (xs ++ rest).length)) (σ.newCells vs) (w.alloc (.cells (xs ++ rest).toArray E)) ∧
      φ.le (φ.upd σ.next (w.heap.size, (xs ++ rest).length)) := by
  refine h.new (.cells false 0 vs.length [] (ofList vs)) (.cells (xs ++ rest).toArray E) _ rfl (.inr trivial) ?_
  have hn : φ σ.next = none := by
    cases hc : φ σ.next with
    | none => rfl
    | some x => obtain ⟨b, m⟩ := x; have := (h.dom _ _ _ hc).1; omega
  refine ⟨(xs ++ rest).toArray, E, (0, 0), heap_alloc_new w _, by simp, fun _ => ⟨rfl, h.B_le⟩, by have := hr.length; simp; omega, ?_⟩
  intro i v hi
  rw [cellOf_ofList] at hi
  obtain ⟨x, hx, hv⟩ := hr.get i v hi
  have hlt : i < xs.length := by
    rcases Nat.lt_or_ge i xs.length with k | k
    · exact k
    · rw [List.getElem?_eq_none k] at hx; cases hx
  refine ⟨x, ?_, VR.mono (φ.le_upd _ hn) _ _ hv⟩
  simp only [List.getElem?_toArray]
  rw [List.getElem?_append_left hlt]; exact hx

/-- a new row of zeros -/
theorem Rel.newZero (h : Rel G B w0 φ σ w) (n : Nat) (z : List V) (zs : List Value) (C : Array Value) (E : TypeId) (hz : LR φ z zs) (hC : C.size = n)
    (hc : ∀ i, i < n → C[i]? = zs[i % zs.length]?) :
    Rel G B w0 (φ.upd σ.next (w.heap.size, n)) (σ.new (.cells false 0 n z .nil)) (w.alloc (.cells C E)) ∧ φ.le (φ.upd σ.next (w.heap.size, n)) := by
  refine h.new (.cells false 0 n z .nil) (.cells C E) n rfl (.inr trivial) ?_
  have hn : φ σ.next = none := by
    cases hc : φ σ.next with
    | none => rfl
    | some x => obtain ⟨b, m⟩ := x; have := (h.dom _ _ _ hc).1; omega
  refine ⟨C, E, (0, 0), heap_alloc_new w _, hC, fun _ => ⟨rfl, h.B_le⟩, Nat.le_refl _, ?_⟩
  intro i v hi
  unfold cellOf at hi
  split at hi
  · rename_i hlt
    simp only [T.get_nil] at hi
    obtain ⟨x, hx, hv⟩ := hz.get _ v hi
    exact ⟨x, by rw [hc i hlt, hz.length]; exact hx, VR.mono (φ.le_upd _ hn) _ _ hv⟩
  · cases hi

/-! ### cutting -/
/-- an object is another with fewer known cells -/
def Less (o o' : Obj) : Prop :=
  o = o' ∨ o = .dead ∨ ∃ ro g n z t n', o' = .cells ro g n z t ∧ o = .cells ro g n' z t ∧ n' ≤ n

theorem Less.refl (o : Obj) : Less o o := .inl rfl
theorem Less.trans {a b c : Obj} (h : Less a b) (k : Less b c) : Less a c := by
  rcases h with rfl | rfl | ⟨ro, g, n, z, t, n', rfl, rfl, hn⟩
  · exact k
  · exact .inr (.inl rfl)
  · rcases k with rfl | k | ⟨ro', g', m, z', t', m', rfl, k, hm⟩
    · exact .inr (.inr ⟨_, _, _, _, _, _, rfl, rfl, hn⟩)
    · cases k
    · cases k; exact .inr (.inr ⟨_, _, _, _, _, _, rfl, rfl, by omega⟩)

theorem Less.live {o o' : Obj} (h : Less o o') (hl : o.live = true) : o'.live = true ∧ o.mut = o'.mut ∧ o.grp = o'.grp := by
  rcases h with rfl | rfl | ⟨ro, g, n, z, t, n', rfl, rfl, hn⟩
  · exact ⟨hl, rfl, rfl⟩
  · simp [Obj.live] at hl
  · exact ⟨rfl, rfl, rfl⟩

theorem Obj.mut_live {o : Obj} (h : o.mut = true) : o.live = true := by cases o <;> simp_all [Obj.mut, Obj.live]

theorem cellOf_mono {n n' : Nat} {z : List V} {t : T V} {i : Nat} {v : V} (hn : n' ≤ n) (h : cellOf n' z t i = some v) : cellOf n z t i = some v := by
  unfold cellOf at h ⊢
  split at h
  · rw [if_pos (by omega)]; exact h
  · cases h

theorem Less.objR {o o' : Obj} (h : Less o o') {Q : Program} {b n : Nat} (k : ObjR Q φ B b n w o') : ObjR Q φ B b n w o := by
  rcases h with rfl | rfl | ⟨ro, g, n, z, t, n', rfl, rfl, hn⟩
  · exact k
  · trivial
  · obtain ⟨C, E, fz, h1, h2, h3, h4, h5⟩ := k
    exact ⟨C, E, fz, h1, h2, h3, by omega, fun i v hi => h5 i v (cellOf_mono hn hi)⟩

theorem cutOthers_get (x i : Nat) (l : List Nat) : ∀ (o : T Obj) (a : Nat),
    ((cutOthers x i l o).get a = o.get a ∨ ∃ p q, (cutOthers x i l o).get a = some p ∧ o.get a = some q ∧ Less p q) ∧
    (a = x → (cutOthers x i l o).get a = o.get a) ∧
    (a ∈ l → a ≠ x → ∀ ro g n z t, (cutOthers x i l o).get a = some (.cells ro g n z t) → n ≤ i) := by
  induction l with
  | nil => intro o a; exact ⟨.inl rfl, fun _ => rfl, fun h => by cases h⟩
  | cons m r ih =>
    intro o a
    simp only [cutOthers]
    by_cases hm : m = x
    · rw [if_pos hm]
      obtain ⟨h1, h2, h3⟩ := ih o a
      exact ⟨h1, h2, fun ha hne => h3 (by rcases List.mem_cons.1 ha with e | e; exact (hne (e.trans hm)).elim; exact e) hne⟩
    · rw [if_neg hm]
      split
      · rename_i ro g n z t hmo
        obtain ⟨h1, h2, h3⟩ := ih (o.set m (.cells ro g (min n i) z t)) a
        refine ⟨?_, ?_, ?_⟩
        · by_cases ham : a = m
          · subst ham
            rw [T.get_set, if_pos rfl] at h1
            right
            rcases h1 with h1 | ⟨p, q, hp, hq, hpq⟩
            · exact ⟨_, _, h1, hmo, .inr (.inr ⟨_, _, _, _, _, _, rfl, rfl, Nat.min_le_left _ _⟩)⟩
            · simp at hq; subst hq
              exact ⟨p, _, hp, hmo, hpq.trans (.inr (.inr ⟨_, _, _, _, _, _, rfl, rfl, Nat.min_le_left _ _⟩))⟩
          · rw [T.get_set, if_neg ham] at h1; exact h1
        · intro e; rw [h2 e, T.get_set, if_neg (fun k => hm (k.symm.trans e))]
        · intro ha hne ro' g' n' z' t' hres
          by_cases ham : a = m
          · subst ham
            rw [T.get_set, if_pos rfl] at h1
            rcases h1 with h1 | ⟨p, q, hp, hq, hpq⟩
            · rw [h1] at hres; cases hres; exact Nat.min_le_right _ _
            · simp at hq; subst hq
              rw [hp] at hres; cases hres
              rcases hpq with hpq | hpq | ⟨_, _, _, _, _, _, hq, hp', hle⟩
              · cases hpq; exact Nat.min_le_right _ _
              · cases hpq
              · cases hq; cases hp'; exact Nat.le_trans hle (Nat.min_le_right _ _)
          · exact h3 (by rcases List.mem_cons.1 ha with e | e; exact (ham e).elim; exact e) hne ro' g' n' z' t' hres
      · obtain ⟨h1, h2, h3⟩ := ih o a
        refine ⟨h1, h2, fun ha hne ro' g' n' z' t' hres => ?_⟩
        by_cases har : a ∈ r
        · exact h3 har hne ro' g' n' z' t' hres
        · have ham : a = m := by rcases List.mem_cons.1 ha with e | e; exact e; exact (har e).elim
          subst ham
          rename_i hno
          rcases h1 with h1 | ⟨p, q, hp, hq, hpq⟩
          · rw [hres] at h1; exact (hno _ _ _ _ _ h1.symm).elim
          · rw [hp] at hres; cases hres
            rcases hpq with hpq | hpq | ⟨_, _, _, _, _, _, hq', hp', hle⟩
            · rw [hq, ← hpq] at hno; exact (hno _ _ _ _ _ rfl).elim
            · cases hpq
            · rw [hq, hq'] at hno; exact (hno _ _ _ _ _ rfl).elim

theorem below_setRow {a w : World} (h : Below B a w) {g : Nat} (hg : B ≤ g) (C : Array Value) : Below B a (w.setRow g C) :=
  h.trans ⟨rfl, rfl, rfl, by simp, fun k hk => setRow_other w g k C (by omega)⟩

/-! ### storing -/
theorem Rel.store (h : Rel G B w0 φ σ w) {id off b n : Nat} {vs : List V} {xs : List Value} {σ' : St} (hs : σ.store id off vs = some σ') (ha : φ id = some (b, n)) (hr : LR φ vs xs) :
    ∃ w', (storeCells ⟨b, off, none⟩ xs).run P w = .ok () w' ∧ Rel G B w0 φ σ' w' := by
  unfold St.store at hs
  split at hs
  · rename_i g k z t ho
    split at hs
    · rename_i hcond
      obtain ⟨hle, hflat⟩ := hcond
      simp only [Option.some.injEq] at hs
      obtain ⟨C, E, fz, h1, h2, h3, h4, h5⟩ := h.obj id _ b n ho ha
      obtain ⟨rfl, hBb⟩ := h3 rfl
      have hlen := hr.length
      have hone : ∀ x ∈ xs, x.oneCell' = true := by
        intro x hx
        obtain ⟨i, hi, rfl⟩ := List.getElem_of_mem hx
        have hil : i < vs.length := by omega
        obtain ⟨y, hy, hv⟩ := hr.get i vs[i] (by simp [hil])
        simp [hi] at hy; subst hy
        exact hv.oneCell (by simpa using List.all_eq_true.1 hflat vs[i] (by simp))
      have hrun := run_storeCells_at P b off E xs 0 C w h1 (by omega) hone
      simp only [Nat.add_zero] at hrun
      refine ⟨_, hrun, ?_⟩
      generalize hC' : (C.toList.take off ++ xs ++ C.toList.drop (off + xs.length)).toArray = C'
      have hCsz : C'.size = C.size := by rw [← hC']; simp; omega
      have hget : ∀ i, C'[i]? = if off ≤ i ∧ i < off + xs.length then xs[i - off]? else C[i]? := by
        intro i
        rw [← hC']
        simp only [List.getElem?_toArray]
        by_cases c1 : i < off
        · rw [if_neg (by omega), List.append_assoc, List.getElem?_append_left (by simp; omega), List.getElem?_take]; simp [c1]
        · by_cases c2 : i < off + xs.length
          · rw [if_pos (by omega), List.append_assoc, List.getElem?_append_right (by simp; omega), List.getElem?_append_left (by simp; omega)]
            simp only [List.length_take, Array.length_toList]
            rw [show min off C.size = off by omega]
          · rw [if_neg (by omega), List.getElem?_append_right (by simp; omega)]
            simp only [List.length_append, List.length_take, Array.length_toList, List.getElem?_drop, Array.getElem?_toList]
            congr 1; omega
      have hblk : (w.setRow b C').heap[b]? = some (.cells C' E (0, 0)) := setRow_heap w b C C' E _ h1
      -- the objects of the new state
      have key : ∀ a o', σ'.objs.get a = some o' →
          (a = id ∧ o' = .cells false g k z (putN t off vs)) ∨
          (a ≠ id ∧ ∃ q, σ.objs.get a = some q ∧ Less o' q ∧ (q.grp = g → g ≠ 0 → ∀ ro g' n' z' t', o' = .cells ro g' n' z' t' → n' ≤ off)) := by
        intro a o' ho'
        rw [← hs] at ho'
        simp only at ho'
        by_cases hg0 : g = 0
        · rw [if_pos hg0, T.get_set] at ho'
          by_cases e : a = id
          · rw [if_pos e] at ho'; simp at ho'; exact .inl ⟨e, ho'.symm⟩
          · rw [if_neg e] at ho'; exact .inr ⟨e, o', ho', Less.refl _, fun _ hg => (hg hg0).elim⟩
        · rw [if_neg hg0] at ho'
          obtain ⟨k1, k2, k3⟩ := cutOthers_get id off ((σ.grps.get g).getD []) (σ.objs.set id (.cells false g k z (putN t off vs))) a
          by_cases e : a = id
          · rw [k2 e, T.get_set, if_pos e] at ho'; simp at ho'; exact .inl ⟨e, ho'.symm⟩
          · rw [T.get_set, if_neg e] at k1
            right
            refine ⟨e, ?_⟩
            rcases k1 with k1 | ⟨p, q, hp, hq, hpq⟩
            · rw [k1] at ho'
              refine ⟨o', ho', Less.refl _, fun hgq hg ro g' n' z' t' he => ?_⟩
              subst he
              have hmem := (h.grp a _ ho' (by rw [hgq]; exact hg)).2
              rw [hgq] at hmem
              exact k3 hmem e ro g' n' z' t' (by rw [k1]; exact ho')
            · rw [hp] at ho'; cases ho'
              refine ⟨q, hq, hpq, fun hgq hg ro g' n' z' t' he => ?_⟩
              subst he
              have hmem := (h.grp a _ hq (by rw [hgq]; exact hg)).2
              rw [hgq] at hmem
              exact k3 hmem e ro g' n' z' t' hp
      have hnext : σ'.next = σ.next ∧ σ'.grps = σ.grps := by rw [← hs]; exact ⟨rfl, rfl⟩
      refine ⟨below_setRow h.below hBb C', by simp; exact h.B_le, ?_, ?_, ?_, ?_, ?_, ?_, ?_, by intro a hX; rw [hnext.1]; exact h.pend a hX⟩
      · intro a b m hab; rw [hnext.1]; simpa using h.dom a b m hab
      · intro g hg; rw [hnext.1]; exact h.glob g hg
      · intro a o' b' m ho' ha'
        rcases key a o' ho' with ⟨rfl, rfl⟩ | ⟨hne, q, hq, hless, hcut⟩
        · rw [ha] at ha'; simp at ha'; obtain ⟨rfl, rfl⟩ := ha'
          refine ⟨C', E, (0, 0), hblk, by omega, fun _ => ⟨rfl, hBb⟩, h4, ?_⟩
          intro i v hi
          unfold cellOf at hi
          split at hi
          · rename_i hik
            rw [putN_get] at hi
            rw [hget]
            by_cases c : off ≤ i ∧ i < off + vs.length
            · rw [if_pos c] at hi
              rw [if_pos (by omega)]
              have : vs[i - off]? = some v := by
                cases hvi : vs[i - off]? with
                | none => rw [List.getElem?_eq_none_iff] at hvi; omega
                | some u => rw [hvi] at hi; simp at hi; rw [hi]
              exact hr.get _ v this
            · rw [if_neg c] at hi
              rw [if_neg (by omega)]
              exact h5 i v (by unfold cellOf; rw [if_pos hik]; exact hi)
          · cases hi
        · by_cases hb : b' = b
          · subst hb
            cases hqm : o'.live with
            | false => cases o' <;> simp_all [Obj.live, ObjR]
            | true =>
              obtain ⟨hql, _, hgq⟩ := hless.live hqm
              obtain ⟨hg0, hgg⟩ := h.sep id a _ q b' n m (Ne.symm hne) ho hq rfl hql ha ha'
              simp only [Obj.grp] at hg0 hgg
              have hk := hless.objR (h.obj a q b' m hq ha')
              cases o' with
              | dead => trivial
              | map es bs ck => simp [Obj.grp] at hgq; omega
              | iter => simp [Obj.grp] at hgq; omega
              | dfr => simp [Obj.grp] at hgq; omega
              | loop => simp [Obj.grp] at hgq; omega
              | cells ro g' n' z' t' =>
                have hn' := hcut hgg.symm hg0 ro g' n' z' t' rfl
                obtain ⟨C2, E2, fz2, e1, e2, e3, e4, e5⟩ := hk
                rw [h1] at e1; simp at e1; obtain ⟨rfl, rfl, rfl⟩ := e1
                refine ⟨C', E, (0, 0), hblk, by omega, e3, e4, ?_⟩
                intro i v hi
                have hi' : i < n' := by unfold cellOf at hi; split at hi; assumption; cases hi
                rw [hget, if_neg (by omega)]
                exact e5 i v hi
          · refine (hless.objR (h.obj a q b' m hq ha')).of_block ?_
            exact setRow_other w b b' C' hb
      · intro a hna
        rw [hnext.1] at hna
        cases hc : σ'.objs.get a with
        | none => rfl
        | some o' =>
          rcases key a o' hc with ⟨rfl, _⟩ | ⟨_, q, hq, _⟩
          · have := h.lt ho; omega
          · have := h.lt hq; omega
      · intro a a' o1 o2 b1 m m' hne k1 k2 hm hl ha1 ha2
        have f1 : ∃ q, σ.objs.get a = some q ∧ q.mut = o1.mut ∧ q.grp = o1.grp := by
          rcases key a o1 k1 with ⟨rfl, rfl⟩ | ⟨_, q, hq, hless, _⟩
          · exact ⟨_, ho, rfl, rfl⟩
          · obtain ⟨e1, e2, e3⟩ := hless.live (Obj.mut_live hm); exact ⟨q, hq, e2.symm, e3.symm⟩
        have f2 : ∃ q, σ.objs.get a' = some q ∧ q.live = true ∧ q.grp = o2.grp := by
          rcases key a' o2 k2 with ⟨rfl, rfl⟩ | ⟨_, q, hq, hless, _⟩
          · exact ⟨_, ho, rfl, rfl⟩
          · obtain ⟨e1, e2, e3⟩ := hless.live hl; exact ⟨q, hq, e1, e3.symm⟩
        obtain ⟨q1, hq1, hm1, hg1⟩ := f1
        obtain ⟨q2, hq2, hl2, hg2⟩ := f2
        obtain ⟨r1, r2⟩ := h.sep a a' q1 q2 b1 m m' hne hq1 hq2 (hm1.trans hm) hl2 ha1 ha2
        exact ⟨hg1 ▸ r1, by rw [← hg1, ← hg2]; exact r2⟩
      · intro a o1 k1 hg1
        rw [hnext.1, hnext.2]
        rcases key a o1 k1 with ⟨rfl, rfl⟩ | ⟨_, q, hq, hless, _⟩
        · exact h.grp a (.cells false g k z t) ho hg1
        · have hlive : o1.live = true := by cases o1 <;> simp_all [Obj.grp, Obj.live]
          obtain ⟨e1, e2, e3⟩ := hless.live hlive
          rw [e3] at hg1 ⊢
          exact h.grp a q hq hg1
      · intro g' hg'; rw [hnext.1] at hg'; rw [hnext.2]; exact h.gfresh g' hg'
    · cases hs
  · cases hs
end AM
