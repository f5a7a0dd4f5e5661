import Derived.Test.YtdnefddmghhgpaaGreatDoorA7Mem
namespace AM
open Go Go.RowKit
set_option linter.unusedVariables false
set_option linter.unusedSimpArgs false
variable {G B : Nat} {w0 : Base} {φ : Phi} {σ : St} {w : World} {P : Program}

theorem grp_cells (ro : Bool) (g n : Nat) (z : List V) (t : T V) : (Obj.cells ro g n z t).grp = g := rfl

theorem killAll_get : ∀ (l : List Nat) (o : T Obj) (a : Nat),
    ((killAll l o).get a = o.get a ∨ ((killAll l o).get a = some .dead ∧ (o.get a).isSome)) ∧
    (a ∈ l → (killAll l o).get a = none ∨ (killAll l o).get a = some .dead) := by
  intro l
  induction l with
  | nil => intro o a; exact ⟨.inl rfl, fun h => by cases h⟩
  | cons m r ih =>
    intro o a
    simp only [killAll]
    split
    · rename_i q hq
      obtain ⟨h1, h2⟩ := ih (o.set m .dead) a
      by_cases e : a = m
      · subst e
        rw [T.get_set, if_pos rfl] at h1
        have : (killAll r (o.set a Obj.dead)).get a = some .dead := by rcases h1 with h1 | h1; exact h1; exact h1.1
        exact ⟨.inr ⟨this, by rw [hq]; rfl⟩, fun _ => .inr this⟩
      · rw [T.get_set, if_neg e] at h1
        exact ⟨h1, fun ha => h2 (by rcases List.mem_cons.1 ha with k | k; exact (e k).elim; exact k)⟩
    · rename_i hq
      obtain ⟨h1, h2⟩ := ih o a
      refine ⟨h1, fun ha => ?_⟩
      rcases List.mem_cons.1 ha with rfl | k
      · rcases h1 with h1 | h1
        · exact .inl (h1.trans hq)
        · rw [hq] at h1; simp at h1
      · exact h2 k

/-- the state behind an append, where y is laid at (b', n') -/
theorem Rel.appended (h : Rel G B w0 φ σ w) {id b n g nn e b' n' : Nat} {z : List V} {t : T V} {w' : World} {C C' : Array Value} {E E' : TypeId} {all : List V} {g' : Nat}
    (ho : σ.objs.get id = some (.cells false g nn z t)) (ha : φ id = some (b, n)) (hC : w.heap[b]? = some (.cells C E (0, 0)))
    (hg' : g' = if g = 0 then σ.next else g)
    (hbel : Below B w0.w w') (hsz : w.heap.size ≤ w'.heap.size) (hb' : (b' = b ∧ n' = n) ∨ (b' = w.heap.size ∧ b' < w'.heap.size))
    (hblk : w'.heap[b']? = some (.cells C' E' (0, 0))) (hCn : C'.size = n') (hBb : B ≤ b') (hoth : ∀ k, k < w.heap.size → k ≠ b' → w'.heap[k]? = w.heap[k]?)
    (hpre : b' = b → ∀ i : Nat, i < e → C'[i]? = C[i]?) (hnew : ∀ (i : Nat) (v : V), all[i]? = some v → ∃ x, C'[i]? = some x ∧ VR φ v x) (hall : all.length ≤ n') :
    Rel G B w0 (φ.upd σ.next (b', n'))
      { next := σ.next + 1
        objs := T.set (killAll (if g = 0 then [] else ((σ.grps.get g).getD []).drop 8)
          (cutOthers id e (if g = 0 then [] else (σ.grps.get g).getD []) (σ.objs.set id (.cells false g' (min nn e) z t)))) σ.next (.cells false g' all.length [] (ofList all))
        grps := σ.grps.set g' (σ.next :: (if g = 0 then [id] else ((σ.grps.get g).getD []).take 8)) } w' ∧ φ.le (φ.upd σ.next (b', n')) := by
  have hn : φ σ.next = none := by
    cases hc : φ σ.next with
    | none => rfl
    | some x => obtain ⟨b, m⟩ := x; have := (h.dom _ _ _ hc).1; omega
  have hle := φ.le_upd (a := σ.next) (b', n') hn
  have hid := h.lt ho
  have hidb := h.dom id b n ha
  have hg0 : g' ≠ 0 := by rw [hg']; split <;> omega
  have hggrp := h.grp id _ ho
  simp only [grp_cells] at hggrp
  generalize hmem : (if g = 0 then [] else (σ.grps.get g).getD []) = mem
  have hdrop : (if g = 0 then [] else ((σ.grps.get g).getD []).drop 8) = mem.drop 8 := by rw [← hmem]; split <;> simp
  rw [hdrop]
  generalize hO : killAll (mem.drop 8) (cutOthers id e mem (σ.objs.set id (.cells false g' (min nn e) z t))) = O
  -- what stands in the new table, but for y
  have key : ∀ a o', O.get a = some o' →
      (a = id ∧ (o' = .dead ∨ (o' = .cells false g' (min nn e) z t ∧ a ∉ mem.drop 8))) ∨
      (a ≠ id ∧ ∃ q, σ.objs.get a = some q ∧ Less o' q ∧ (o'.live = true → a ∉ mem.drop 8) ∧ (q.grp = g → g ≠ 0 → ∀ ro g1 n1 z1 t1, o' = .cells ro g1 n1 z1 t1 → n1 ≤ e)) := by
    intro a o' ho'
    rw [← hO] at ho'
    obtain ⟨k1, k2⟩ := killAll_get (mem.drop 8) (cutOthers id e mem (σ.objs.set id (.cells false g' (min nn e) z t))) a
    obtain ⟨c1, c2, c3⟩ := cutOthers_get id e mem (σ.objs.set id (.cells false g' (min nn e) z t)) a
    have hlive : o'.live = true → a ∉ mem.drop 8 := by
      intro hl hm
      rcases k2 hm with k | k <;> rw [k] at ho' <;> simp at ho'
      subst ho'; simp [Obj.live] at hl
    by_cases e1 : a = id
    · left
      refine ⟨e1, ?_⟩
      rcases k1 with k1 | ⟨k1, _⟩
      · rw [k1, c2 e1, T.get_set, if_pos e1] at ho'
        simp at ho'; subst ho'
        exact .inr ⟨rfl, hlive rfl⟩
      · rw [k1] at ho'; simp at ho'; exact .inl ho'.symm
    · right
      refine ⟨e1, ?_⟩
      rw [T.get_set, if_neg e1] at c1
      have hq : ∃ q, σ.objs.get a = some q ∧ Less o' q := by
        rcases k1 with k1 | ⟨k1, k1'⟩
        · rw [k1] at ho'
          rcases c1 with c1 | ⟨p, q, hp, hq, hpq⟩
          · rw [c1] at ho'; exact ⟨o', ho', Less.refl _⟩
          · rw [hp] at ho'; simp at ho'; subst ho'; exact ⟨q, hq, hpq⟩
        · rw [k1] at ho'; simp at ho'
          rcases c1 with c1 | ⟨p, q, hp, hq, hpq⟩
          · rw [c1] at k1'
            obtain ⟨q, hq⟩ := Option.isSome_iff_exists.1 k1'
            exact ⟨q, hq, .inr (.inl ho'.symm)⟩
          · exact ⟨q, hq, .inr (.inl ho'.symm)⟩
      obtain ⟨q, hq, hless⟩ := hq
      refine ⟨q, hq, hless, hlive, fun hgq hg ro g1 n1 z1 t1 he => ?_⟩
      subst he
      have hm := (h.grp a q hq (by rw [hgq]; exact hg)).2
      rw [hgq] at hm
      have hm' : a ∈ mem := by rw [← hmem, if_neg hg]; exact hm
      refine c3 hm' e1 ro g1 n1 z1 t1 ?_
      rcases k1 with k1 | ⟨k1, _⟩
      · rw [← k1]; exact ho'
      · rw [k1] at ho'; cases ho'
  have hO_next : O.get σ.next = none ∨ True := .inr trivial
  have hlt : ∀ a o', O.get a = some o' → a < σ.next := by
    intro a o' ho'
    rcases key a o' ho' with ⟨rfl, _⟩ | ⟨_, q, hq, _⟩
    · exact hid
    · exact h.lt hq
  -- the group of an object that lives on
  have hgrp : ∀ a o', O.get a = some o' → o'.live = true → ∃ q, σ.objs.get a = some q ∧ q.live = true ∧ q.mut = o'.mut ∧ ((a = id ∧ o'.grp = g' ∧ q.grp = g) ∨ (a ≠ id ∧ o'.grp = q.grp)) := by
    intro a o' ho' hl
    rcases key a o' ho' with ⟨rfl, k | ⟨k, _⟩⟩ | ⟨hne, q, hq, hless, _⟩
    · subst k; simp [Obj.live] at hl
    · subst k; exact ⟨_, ho, rfl, rfl, .inl ⟨rfl, rfl, rfl⟩⟩
    · obtain ⟨r1, r2, r3⟩ := hless.live hl; exact ⟨q, hq, r1, r2.symm, .inr ⟨hne, r3⟩⟩
  have hb'ne : ∀ a m, φ a = some (b', m) → b' = b := by
    intro a m hm
    rcases hb' with ⟨k, _⟩ | ⟨k, _⟩
    · exact k
    · have := (h.dom a b' m hm).2; omega
  refine ⟨⟨hbel, by have := h.B_le; omega, ?_, ?_, ?_, ?_, ?_, ?_, ?_, ?_⟩, hle⟩
  · intro a b1 m hab
    by_cases e1 : a = σ.next
    · subst e1; rw [Phi.upd_same] at hab; simp at hab; obtain ⟨rfl, rfl⟩ := hab
      exact ⟨by simp, by rcases hb' with ⟨k, _⟩ | ⟨_, k⟩ <;> omega⟩
    · rw [Phi.upd_ne φ _ e1] at hab; obtain ⟨r1, r2⟩ := h.dom a b1 m hab; exact ⟨by simp; omega, by omega⟩
  · intro g1 hg1
    obtain ⟨r1, m, hm⟩ := h.glob g1 hg1
    exact ⟨by simp; omega, m, hle _ _ hm⟩
  · intro a o' b1 m ho' hab
    simp only [T.get_set] at ho'
    by_cases e1 : a = σ.next
    · rw [if_pos e1] at ho'; simp at ho'; subst ho'
      subst e1; rw [Phi.upd_same] at hab; simp at hab; obtain ⟨rfl, rfl⟩ := hab
      refine ⟨C', E', (0, 0), hblk, hCn, fun _ => ⟨rfl, hBb⟩, hall, ?_⟩
      intro i v hi
      rw [cellOf_ofList] at hi
      obtain ⟨x, hx, hv⟩ := hnew i v hi
      exact ⟨x, hx, VR.mono hle _ _ hv⟩
    · rw [if_neg e1] at ho'
      rw [Phi.upd_ne φ _ e1] at hab
      have hb1 := (h.dom a b1 m hab).2
      refine ObjR.mono hle ?_
      by_cases hbb : b1 = b'
      · subst hbb
        have hbb := hb'ne a m hab
        subst hbb
        cases hol : o'.live with
        | false => cases o' <;> simp_all [Obj.live, ObjR]
        | true =>
          -- the object lies in the block that was written
          rcases key a o' ho' with ⟨rfl, k | ⟨k, _⟩⟩ | ⟨hne, q, hq, hless, _, hcut⟩
          · subst k; trivial
          · subst k
            obtain ⟨C2, E2, fz2, d1, d2, d3, d4, d5⟩ := h.obj a _ b1 m ho hab
            rw [hC] at d1; simp at d1; obtain ⟨rfl, rfl, rfl⟩ := d1
            rw [ha] at hab; simp at hab; subst hab
            have hn'n : n' = n := by rcases hb' with ⟨_, k⟩ | ⟨k, _⟩; exact k; omega
            refine ⟨C', E', (0, 0), hblk, by omega, d3, by omega, ?_⟩
            intro i v hi
            have hi' : i < e := by unfold cellOf at hi; split at hi; omega; cases hi
            rw [hpre rfl i hi']
            exact d5 i v (cellOf_mono (Nat.min_le_left _ _) hi)
          · obtain ⟨r1, r2, r3⟩ := hless.live hol
            obtain ⟨s1, s2⟩ := h.sep id a _ q b1 n m (Ne.symm hne) ho hq rfl r1 ha hab
            simp only [grp_cells] at s1 s2
            have hk := hless.objR (h.obj a q b1 m hq hab)
            cases o' with
            | dead => trivial
            | map es bs ck => have hz : q.grp = 0 := r3.symm; exact (s1 (s2.trans hz)).elim
            | iter m0 s0 e0 l0 => have hz : q.grp = 0 := r3.symm; exact (s1 (s2.trans hz)).elim
            | dfr => have hz : q.grp = 0 := r3.symm; exact (s1 (s2.trans hz)).elim
            | loop a0 b0 c0 d0 e0 f0 => have hz : q.grp = 0 := r3.symm; exact (s1 (s2.trans hz)).elim
            | cells ro g1 n1 z1 t1 =>
              have hn1 := hcut s2.symm s1 ro g1 n1 z1 t1 rfl
              obtain ⟨C2, E2, fz2, d1, d2, d3, d4, d5⟩ := hk
              rw [hC] at d1; simp at d1; obtain ⟨rfl, rfl, rfl⟩ := d1
              have hmn : m = n' := by
                have q1 := (h.obj id _ b1 n ho ha)
                obtain ⟨C3, E3, fz3, f1, f2, _⟩ := q1
                rw [hC] at f1; simp at f1; obtain ⟨rfl, rfl, rfl⟩ := f1
                rcases hb' with ⟨_, k⟩ | ⟨k, _⟩ <;> omega
              refine ⟨C', E', (0, 0), hblk, by omega, d3, d4, ?_⟩
              intro i v hi
              have hi' : i < n1 := by unfold cellOf at hi; split at hi; assumption; cases hi
              rw [hpre rfl i (by omega)]
              exact d5 i v hi
      · have hsame := hoth b1 hb1 hbb
        rcases key a o' ho' with ⟨rfl, k | ⟨k, _⟩⟩ | ⟨hne, q, hq, hless, _⟩
        · subst k; trivial
        · subst k
          have hk := (h.obj a _ b1 m ho hab).of_block hsame
          obtain ⟨C2, E2, fz2, d1, d2, d3, d4, d5⟩ := hk
          exact ⟨C2, E2, fz2, d1, d2, d3, by omega, fun i v hi => d5 i v (cellOf_mono (Nat.min_le_left _ _) hi)⟩
        · exact (hless.objR (h.obj a q b1 m hq hab)).of_block hsame
  · intro a hna
    simp only at hna
    simp only [T.get_set]
    rw [if_neg (by omega)]
    cases hc : O.get a with
    | none => rfl
    | some o' => have := hlt a o' hc; omega
  · intro a a' o1 o2 b1 m m' hne k1 k2 hm hl ha1 ha2
    simp only [T.get_set] at k1 k2
    by_cases e1 : a = σ.next
    · rw [if_pos e1] at k1; simp at k1; subst k1
      subst e1; rw [Phi.upd_same] at ha1; simp at ha1; obtain ⟨rfl, rfl⟩ := ha1
      rw [if_neg (Ne.symm hne)] at k2
      rw [Phi.upd_ne φ _ (Ne.symm hne)] at ha2
      refine ⟨hg0, ?_⟩
      simp only [grp_cells]
      have hbb := hb'ne a' m' ha2
      subst hbb
      obtain ⟨q, hq, hql, hqm, hgr⟩ := hgrp a' o2 k2 hl
      rcases hgr with ⟨_, r, _⟩ | ⟨hne', r⟩
      · exact r.symm
      · obtain ⟨s1, s2⟩ := h.sep id a' _ q b' n m' (Ne.symm hne') ho hq rfl hql ha ha2
        simp only [grp_cells] at s1 s2
        rw [r, ← s2, hg', if_neg s1]
    · rw [if_neg e1] at k1
      rw [Phi.upd_ne φ _ e1] at ha1
      obtain ⟨q1, hq1, hq1l, hq1m, hgr1⟩ := hgrp a o1 k1 (Obj.mut_live hm)
      by_cases e2 : a' = σ.next
      · rw [if_pos e2] at k2; simp at k2; subst k2
        subst e2; rw [Phi.upd_same] at ha2; simp at ha2; obtain ⟨rfl, rfl⟩ := ha2
        simp only [grp_cells]
        have hbb := hb'ne a m ha1
        subst hbb
        rcases hgr1 with ⟨_, r, _⟩ | ⟨hne', r⟩
        · exact ⟨by omega, r⟩
        · obtain ⟨s1, s2⟩ := h.sep a id q1 _ b' m n hne' hq1 ho (hq1m.trans hm) rfl ha1 ha
          simp only [grp_cells] at s1 s2
          have : g ≠ 0 := by omega
          refine ⟨by rw [r]; exact s1, by rw [r, s2, hg', if_neg this]⟩
      · rw [if_neg e2] at k2
        rw [Phi.upd_ne φ _ e2] at ha2
        obtain ⟨q2, hq2, hq2l, hq2m, hgr2⟩ := hgrp a' o2 k2 hl
        obtain ⟨s1, s2⟩ := h.sep a a' q1 q2 b1 m m' hne hq1 hq2 (hq1m.trans hm) hq2l ha1 ha2
        rcases hgr1 with ⟨i1, r1, r1'⟩ | ⟨i1, r1⟩ <;> rcases hgr2 with ⟨i2, r2, r2'⟩ | ⟨i2, r2⟩
        · exact (hne (i1.trans i2.symm)).elim
        · have : g ≠ 0 := by omega
          exact ⟨by omega, by rw [r1, r2, ← s2, r1', hg', if_neg this]⟩
        · have : g ≠ 0 := by omega
          exact ⟨by omega, by rw [r1, r2, s2, r2', hg', if_neg this]⟩
        · exact ⟨by omega, by omega⟩
  · intro a o1 k1 hg1
    simp only [T.get_set] at k1 ⊢
    by_cases e1 : a = σ.next
    · rw [if_pos e1] at k1; simp at k1; subst k1
      simp only [grp_cells]
      rw [if_pos trivial]
      exact ⟨by rw [hg']; split; omega; rename_i hgz; have := (hggrp hgz).1; omega, by simp [e1]⟩
    · rw [if_neg e1] at k1
      have hl1 : o1.live = true := by cases o1 <;> simp_all [Obj.grp, Obj.live]
      have hmem8 : a ∈ mem → a ∈ mem.take 8 := by
        intro hm
        have hnd : a ∉ mem.drop 8 := by
          rcases key a o1 k1 with ⟨_, k | ⟨_, k⟩⟩ | ⟨_, q, _, _, k, _⟩
          · subst k; simp [Obj.live] at hl1
          · exact k
          · exact k hl1
        rw [← List.take_append_drop 8 mem] at hm
        rcases List.mem_append.1 hm with k | k
        · exact k
        · exact (hnd k).elim
      obtain ⟨q, hq, hql, hqm, hgr⟩ := hgrp a o1 k1 hl1
      rcases hgr with ⟨rfl, r, r'⟩ | ⟨hne, r⟩
      · rw [r, if_pos rfl]
        refine ⟨by rw [hg']; split; omega; rename_i hgz; have := (hggrp hgz).1; omega, ?_⟩
        simp only [Option.getD_some, List.mem_cons]
        right
        by_cases hgz : g = 0
        · simp [hgz]
        · rw [if_neg hgz]
          have := hmem8 (by rw [← hmem, if_neg hgz]; exact (hggrp hgz).2)
          rw [← hmem, if_neg hgz] at this
          exact this
      · rw [r] at hg1 ⊢
        obtain ⟨s1, s2⟩ := h.grp a q hq hg1
        refine ⟨by omega, ?_⟩
        by_cases hgq : q.grp = g'
        · rw [if_pos hgq]
          have hgz : g ≠ 0 := by
            intro hgz; rw [hg', if_pos hgz] at hgq; omega
          have hgg : g' = g := by rw [hg', if_neg hgz]
          simp only [Option.getD_some, List.mem_cons]
          right
          rw [if_neg hgz]
          have := hmem8 (by rw [← hmem, if_neg hgz, ← hgg, ← hgq]; exact s2)
          rw [← hmem, if_neg hgz] at this
          exact this
        · rw [if_neg hgq]; exact s2
  · intro x hx
    simp only at hx
    simp only [T.get_set]
    have : x ≠ g' := by
      rw [hg']; split
      · omega
      · rename_i hgz; have := (hggrp hgz).1; omega
    rw [if_neg this]
    exact h.gfresh x (by omega)
  · intro a hX
    obtain ⟨p1, p2⟩ := h.pend a hX
    exact ⟨by rw [Phi.upd_ne φ _ (by omega)]; exact p1, by simp; omega⟩
end AM
