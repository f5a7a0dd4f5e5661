import Derived.Test.YtlgmpheammbacaaGreatDoorSmh
set_option maxRecDepth 1000000
set_option linter.unusedVariables false
set_option linter.unusedSimpArgs false
attribute [local irreducible] AM.T.get AM.T.set
namespace Go.Proofs.YtlgmpheammbacaaGreatDoor
open AM Go
noncomputable section
variable {H H':Heap} {fl pl fc:Nat -> List Nat} {hole hole':Nat -> Prop}
theorem blk_eq {k p x:Nat} (al:p%2^k=0) (alx:x%2^k=0) (h:x / 2^k=p / 2^k):x=p:=by
 have h1:=al_mul al
 have h2:=al_mul alx
 rw [h] at h2;omega
theorem Inv.fl_one (h:Inv H fl pl fc hole) {j k x:Nat} (hj:j <= H.order) (hk:k <= H.order) (h1:x∈fl j) (h2:x∈fl k):j=k:=by
 have a:=((h.fmem j hj x).1 h1).2.2.2
 have b:=((h.fmem k hk x).1 h2).2.2.2
 omega
theorem bud_ne {p k:Nat} (al:p%2^k=0):bud p k≠p:=by
 have hp:=pow_pos' k
 unfold bud
 have h1:=al_mul al
 by_cases c:p / 2^k%2=0
 ·rw [if_pos c];omega
 ·rw [if_neg c]
  have:2^k <= p:=by
   have h2:1*2^k <= p / 2^k*2^k:=Nat.mul_le_mul_right _ (by generalize p / 2^k=q at c;omega)
   omega
  omega
theorem Inv.entered (h : Inv H fl pl fc hole) {p k : Nat} (hk : k <= H.order) (al : p % 2 ^ k = 0) (hp : p + 2 ^ k <= H.np) (hb : ∀ x, x / 2 ^ k = p / 2 ^ k -> hole x) (hbud : k < H.order -> bud p k ∉ fl k) :
    Inv ((H.turned p k).enter p k) (fun j => if j = k then p :: fl k else fl j) pl fc (fun x => hole x /\ ¬ x / 2 ^ k = p / 2 ^ k) := by
  have hpos := pow_pos' k
  have hhp : hole p := hb p rfl
  have hpn : ∀ j, j <= H.order -> p ∉ fl j := fun j hj hm => ((h.fmem j hj p).1 hm).2.1 hhp
  have sm : ((H.turned p k).enter p k).Same H := Heap.Same.trans (same_enter _ _ _) (same_turned _ _ _)
  have hadr : (H.turned p k).addr p = H.addr p := (same_turned H p k).addr p
  have pgG : ∀ x, ((H.turned p k).enter p k).page x = if x / 2 ^ k = p / 2 ^ k then (if x = p then plainP 0 k else plainP (0 + 1) k) else H.page x := by
    intro x
    rw [Heap.enter, pushed_page, blk_run al, turned_page]
  have pgE : ∀ x, ¬ hole x -> ((H.turned p k).enter p k).page x = H.page x := fun x hx => by rw [pgG, if_neg (fun e => hx (hb x e))]
  have pgK : ∀ x, x / 2 ^ k = p / 2 ^ k -> (((H.turned p k).enter p k).page x).order = (k : Int) /\ (((H.turned p k).enter p k).page x).kind = if x % 2 ^ k = 0 then 0 else 1 := by
    intro x hx
    have := run_kind (H := H) (kind := 0) al hx
    rw [blk_run al, if_pos hx] at this
    rw [pgG, if_pos hx]; exact this
  have kin : ∀ x, x / 2 ^ k = p / 2 ^ k -> (((H.turned p k).enter p k).page x).kind = 0 \/ (((H.turned p k).enter p k).page x).kind = 1 := by
    intro x hx
    have := (pgK x hx).2
    split at this
    · exact .inl this
    · exact .inr this
  have nh : ∀ x, ¬ (hole x /\ ¬ x / 2 ^ k = p / 2 ^ k) -> (((H.turned p k).enter p k).page x).kind = 4 -> ¬ hole x := by
    intro x hn h4 hx
    by_cases c : x / 2 ^ k = p / 2 ^ k
    · rcases kin x c with e | e <;> omega
    · exact hn ⟨hx, c⟩
  have fX : ∀ j, j <= H.order -> FL ((H.turned p k).run p k 0) j (fl j) := fun j hj => FL.other (H := H) (h.flk j hj) (same_turned H p k).base (by show (H.turned p k).head j = _; rw [turned_head]) fun x _ i _ => by show (H.turned p k).mem _ = _; rw [turned_mem]
  have memE : ∀ x, x ≠ p -> x ∉ fl k -> ∀ i, i < 4096 -> ((H.turned p k).enter p k).mem (4096 * x + i) = H.mem (4096 * x + i) := by
    intro x h1 h2 i hi
    have e1 := pushed_mem (H := (H.turned p k).run p k 0) (k := k) (p := p) (fX k hk) x h1 h2 i hi
    have e2 : (H.turned p k).mem (4096 * x + i) = H.mem (4096 * x + i) := by rw [turned_mem]
    exact e1.trans e2
  have hlt : ∀ q, q ∈ p :: fl k -> H.addr q < 18446744073709551616 := by
    intro q hq
    rcases List.mem_cons.1 hq with rfl | hq
    · exact h.addr_lt (by omega)
    · exact h.addr_lt ((h.fmem k hk q).1 hq).1
  exact {
    ok := ok_enter (ok_turned h.ok) (by rw [(same_turned H p k).np]; omega)
    pg := by
      intro x hx hn
      rw [sm.np] at hx
      by_cases c : x / 2 ^ k = p / 2 ^ k
      · exact ⟨k, 0, by rw [sm.order]; exact hk, .inl rfl, fun y hy => ⟨fun e => e.2 (hy.trans c), pgK y (hy.trans c)⟩⟩
      · have hx0 : ¬ hole x := fun e => hn ⟨e, c⟩
        obtain ⟨j, fam, q⟩ := h.pg x hx hx0
        refine ⟨j, fam, q.transfer sm.order fun y hy => ?_⟩
        have hy0 := (q.all y hy).1
        rw [pgE y hy0]
        exact ⟨rfl, rfl, fun e => hy0 e.1⟩
    fmem := by
      intro j hj x
      rw [sm.order] at hj
      rw [sm.np]
      constructor
      · intro hm
        have old : x ∈ fl j -> x < H.np /\ ¬ (hole x /\ ¬ x / 2 ^ k = p / 2 ^ k) /\ (((H.turned p k).enter p k).page x).kind = 0 /\ (((H.turned p k).enter p k).page x).order = (j : Int) := by
          intro hm
          obtain ⟨a, b, c, d⟩ := (h.fmem j hj x).1 hm
          rw [pgE x b]; exact ⟨a, fun e => b e.1, c, d⟩
        by_cases e : j = k
        · subst e
          rw [if_pos rfl] at hm
          rcases List.mem_cons.1 hm with rfl | hm
          · have := pgK x rfl
            rw [if_pos al] at this
            exact ⟨by omega, fun e => e.2 rfl, this.2, this.1⟩
          · exact old hm
        · rw [if_neg e] at hm; exact old hm
      · rintro ⟨a, b, c, d⟩
        by_cases e : x / 2 ^ k = p / 2 ^ k
        · have := pgK x e
          rw [c, d] at this
          have ej : j = k := by have := this.1; omega
          have hx0 : x % 2 ^ k = 0 := by
            have := this.2
            split at this
            · assumption
            · omega
          have ex := blk_eq al hx0 e
          subst ej ex
          rw [if_pos rfl]; exact List.mem_cons_self ..
        · have hx0 : ¬ hole x := fun f => b ⟨f, e⟩
          rw [pgE x hx0] at c d
          have hm := (h.fmem j hj x).2 ⟨a, hx0, c, d⟩
          by_cases ej : j = k
          · subst ej; rw [if_pos rfl]; exact List.mem_cons_of_mem _ hm
          · rw [if_neg ej]; exact hm
    fnd := by
      intro j hj
      rw [sm.order] at hj
      by_cases e : j = k
      · subst e; simp only [if_true]; exact List.nodup_cons.2 ⟨hpn j hj, h.fnd j hj⟩
      · simp only [if_neg e]; exact h.fnd j hj
    flk := by
      intro j hj
      rw [sm.order] at hj
      by_cases e : j = k
      · subst e
        simp only [if_true]
        have hb0 : 0 < ((H.turned p j).run p j 0).base := by show 0 < (H.turned p j).base; rw [(same_turned H p j).base]; exact h.ok.base_pos
        refine FL.push hb0 (fX j hj) (hpn j hj) (h.fnd j hj) fun q hq => ?_
        show (H.turned p j).addr q < _
        rw [(same_turned H p j).addr]; exact hlt q hq
      · simp only [if_neg e]
        refine FL.other (H := H) (h.flk j hj) sm.base ?_ fun x hx => ?_
        · rw [Heap.enter, pushed_head _ _ _ _ e]
          show (H.turned p k).head j = _; rw [turned_head]
        · exact memE x (fun ex => hpn j hj (ex ▸ hx)) (fun hm => e (h.fl_one hj hk hx hm))
    bits := by
      intro j hj i hi
      rw [sm.order] at hj
      have hi' : i < 64 * H.nw j := by unfold Heap.nw Heap.npair at hi ⊢; rw [sm.np] at hi; exact hi
      obtain ⟨o1, o2⟩ := h.bits j hj i hi'
      have ew : ((H.turned p k).enter p k).pbit j i = (H.turned p k).pbit j i := pbit_word (by rw [Heap.enter, pushed_word]; rfl) _ _
      rw [ew]
      by_cases ek : k = H.order
      · have et : (H.turned p k).pbit j i = H.pbit j i := by unfold Heap.turned; rw [if_pos ek]
        simp only [if_neg (show j ≠ k by omega)]
        rw [et]; exact ⟨o1, o2⟩
      · have hb' := hbud (by omega)
        rw [turned_pbit H ek]
        by_cases e : j = k
        · subst e
          simp only [if_true, true_and]
          by_cases ei : i = p / 2 ^ (j + 1)
          · rw [if_pos ei]
            have hpj := hpn j hk
            rcases pair_of al ei with ⟨a, b⟩ | ⟨a, b⟩
            · rw [<- a, <- b] at o1 o2 ⊢
              rw [decide_eq_false hpj, decide_eq_false hb'] at o1
              have hbp := bud_ne al
              rw [<- ei, o1]
              simp [hb', hbp]
            · rw [<- a, <- b] at o1 o2 ⊢
              rw [decide_eq_false hpj, decide_eq_false hb'] at o1
              have hbp := bud_ne al
              rw [<- ei, o1]
              simp [hb', hbp]
          · rw [if_neg ei]
            obtain ⟨n1, n2⟩ := pair_ne ei
            simp only [List.mem_cons, Ne.symm n1, Ne.symm n2, false_or]
            exact ⟨o1, o2⟩
        · rw [if_neg (fun c => e c.1)]
          simp only [if_neg e]
          exact ⟨o1, o2⟩
    sl := by
      intro x hx hn hkd
      rw [sm.np] at hx
      have hx0 := nh x hn hkd
      rw [pgE x hx0] at hkd
      obtain ⟨c, s⟩ := h.sl x hx hx0 hkd
      refine ⟨c, s.transfer sm.base (by rw [pgE x hx0]; exact Core.refl _) (memE x (fun e => hx0 (e ▸ hhp)) fun hm => ?_)⟩
      have := ((h.fmem k hk x).1 hm).2.2.1
      omega
    pmem := by
      intro c hc x
      rw [h.pmem c hc x, sm.np]
      constructor
      · rintro ⟨a, b, d⟩
        rw [pgE x b]; exact ⟨a, fun e => b e.1, d⟩
      · rintro ⟨a, b, d, d2⟩
        have hx0 := nh x b d
        rw [pgE x hx0] at d d2
        exact ⟨a, hx0, d, d2⟩
    pnd := h.pnd
    plk := by
      intro c hc
      refine ⟨?_, PSeg.congr (fun q hq => ?_) (h.plk c hc).2⟩
      · rw [Heap.enter, pushed_part]
        show (H.turned p k).part c = _
        rw [turned_part]; exact (h.plk c hc).1
      · have := ((h.pmem c hc q).1 hq).2.1
        rw [pgE q this]; exact ⟨rfl, rfl⟩ }
theorem entered_mem (h:Inv H fl pl fc hole) {p k:Nat} (hk:k <= H.order) {x:Nat} (h1:x≠p) (h2:x∉fl k) {i:Nat} (hi:i<4096):((H.turned p k).enter p k).mem (4096*x+i)=H.mem (4096*x+i):=by
 have fX:FL ((H.turned p k).run p k 0) k (fl k):=FL.other (H:=H) (h.flk k hk) (same_turned H p k).base (by show (H.turned p k).head k=_;rw [turned_head]) fun x _ i _=>by show (H.turned p k).mem _=_;rw [turned_mem]
 have e1:=pushed_mem (H:=(H.turned p k).run p k 0) (k:=k) (p:=p) fX x h1 h2 i hi
 have e2:(H.turned p k).mem (4096*x+i)=H.mem (4096*x+i):=by rw [turned_mem]
 exact e1.trans e2
theorem entered_page (H:Heap) {p k:Nat} (al:p%2^k=0) (x:Nat):((H.turned p k).enter p k).page x=if x / 2^k=p / 2^k then (if x=p then plainP 0 k else plainP (0+1) k) else H.page x:=by
 rw [Heap.enter,pushed_page,blk_run al,turned_page]
theorem nodup_mid {l1 l2:List Nat} {p:Nat} (nd:(l1++p :: l2).Nodup):p∉l1 /\ p∉l2 /\ (l1++l2).Nodup /\ ∀ x,x∈l1++l2↔x∈l1++p :: l2 /\ x≠p:=by
 rw [List.nodup_append] at nd
 obtain ⟨a,b,c⟩:=nd
 obtain ⟨b1,b2⟩:=List.nodup_cons.1 b
 have hp1:p∉l1:=fun hm=>c p hm p (by simp) rfl
 refine ⟨hp1,b1,?_,fun x=>?_⟩
 ·rw [List.nodup_append]
  exact ⟨a,b2,fun x hx y hy=>c x hx y (List.mem_cons_of_mem _ hy)⟩
 ·simp only [List.mem_append,List.mem_cons]
  constructor
  ·rintro (e | e)
   ·exact ⟨.inl e,fun k=>hp1 (k▸e)⟩
   ·exact ⟨.inr (.inr e),fun k=>b1 (k▸e)⟩
  ·rintro ⟨e | rfl | e,k⟩
   ·exact .inl e
   ·exact (k rfl).elim
   ·exact .inr e
theorem Inv.unlisted (h : Inv H fl pl fc hole) {p k : Nat} (hk : k <= H.order) {l1 l2 : List Nat} (e0 : fl k = l1 ++ p :: l2) :
    Inv ((H.turned p k).removed k (hdE H l2 0) (lsA H 0 l1)) (fun j => if j = k then l1 ++ l2 else fl j) pl fc (fun x => hole x \/ x / 2 ^ k = p / 2 ^ k) := by
  have hpm : p ∈ fl k := by rw [e0]; simp
  obtain ⟨g, al, hp⟩ := h.free hk hpm
  have hpos := pow_pos' k
  have nd := h.fnd k hk
  rw [e0] at nd
  obtain ⟨np1, np2, nd', mem'⟩ := nodup_mid nd
  have hnx : hdE H l2 0 < 18446744073709551616 := by
    cases l2 with
    | nil => simp [hdE]
    | cons b r => exact h.addr_lt ((h.fmem k hk b).1 (by rw [e0]; simp)).1
  have sm : ((H.turned p k).removed k (hdE H l2 0) (lsA H 0 l1)).Same H := Heap.Same.trans (same_removed _ _ _ _) (same_turned _ _ _)
  have pgG : ((H.turned p k).removed k (hdE H l2 0) (lsA H 0 l1)).page = H.page := by rw [removed_page, turned_page]
  have bT := (same_turned H p k).base
  have hT : hdE (H.turned p k) l2 0 = hdE H l2 0 := hdE_base bT _ _
  have lT : lsA (H.turned p k) 0 l1 = lsA H 0 l1 := lsA_base bT _ _
  have fX : ∀ j, j <= H.order -> FL (H.turned p k) j (fl j) := fun j hj => FL.other (H := H) (h.flk j hj) bT (by rw [turned_head]) fun x _ i _ => by rw [turned_mem]
  have memE : ∀ x, x ∉ fl k -> ∀ i, i < 4096 -> ((H.turned p k).removed k (hdE H l2 0) (lsA H 0 l1)).mem (4096 * x + i) = H.mem (4096 * x + i) := by
    intro x hx i hi
    have e1 := removed_mem (H := H.turned p k) (k := k) (p := p) (l1 := l1) (l2 := l2) x (by rw [<- e0]; exact hx) i hi
    rw [hT, lT] at e1
    rw [e1, turned_mem]
  have blkp : ∀ x, x / 2 ^ k = p / 2 ^ k -> (H.page x).kind = 0 -> x = p := by
    intro x hx h0
    have := (g.all x hx).2.2
    rw [h0] at this
    split at this
    · rename_i hm; exact blk_eq al hm hx
    · omega
  exact {
    ok := ok_removed (ok_turned h.ok) hnx
    pg := by
      intro x hx hn
      rw [sm.np] at hx
      obtain ⟨j, fam, q⟩ := h.pg x hx (fun c => hn (.inl c))
      refine ⟨j, fam, q.transfer sm.order fun y hy => ?_⟩
      rw [pgG]
      refine ⟨rfl, rfl, ?_⟩
      rintro (c | c)
      · exact (q.all y hy).1 c
      · obtain ⟨e, e2⟩ := q.one g hy c
        subst e
        exact hn (.inr e2)
    fmem := by
      intro j hj x
      rw [sm.order] at hj
      rw [sm.np, pgG]
      have key : ∀ {x}, x ∈ fl j -> x ≠ p \/ j ≠ k -> x < H.np /\ ¬ (hole x \/ x / 2 ^ k = p / 2 ^ k) /\ (H.page x).kind = 0 /\ (H.page x).order = (j : Int) := by
        intro x hm hne
        obtain ⟨a, b, c, d⟩ := (h.fmem j hj x).1 hm
        refine ⟨a, ?_, c, d⟩
        rintro (f | f)
        · exact b f
        · have hxp := blkp x f c
          have ho := (g.all x f).2.1
          rcases hne with e | e
          · exact e hxp
          · exact e (by omega)
      by_cases e : j = k
      · subst e
        rw [if_pos rfl, mem' x, <- e0]
        constructor
        · rintro ⟨a, b⟩; exact key a (.inl b)
        · rintro ⟨a, b, c, d⟩
          exact ⟨(h.fmem j hj x).2 ⟨a, fun f => b (.inl f), c, d⟩, fun f => b (.inr (by rw [f]))⟩
      · rw [if_neg e]
        constructor
        · intro a; exact key a (.inr e)
        · rintro ⟨a, b, c, d⟩
          exact (h.fmem j hj x).2 ⟨a, fun f => b (.inl f), c, d⟩
    fnd := by
      intro j hj
      rw [sm.order] at hj
      by_cases e : j = k
      · subst e; simp only [if_true]; exact nd'
      · simp only [if_neg e]; exact h.fnd j hj
    flk := by
      intro j hj
      rw [sm.order] at hj
      by_cases e : j = k
      · subst e
        simp only [if_true]
        have hf := fX j hj
        rw [e0] at hf
        have := FL.remove (H := H.turned p j) (by rw [bT]; exact h.ok.base_pos) hf nd fun q hq => by
          rw [(same_turned H p j).addr]; exact h.addr_lt ((h.fmem j hj q).1 (by rw [e0]; exact hq)).1
        rw [hT, lT] at this
        exact this
      · simp only [if_neg e]
        refine FL.other (H := H) (h.flk j hj) sm.base ?_ fun x hx => memE x fun hm => e (h.fl_one hj hk hx hm)
        rw [removed_head e, turned_head]
    bits := by
      intro j hj i hi
      rw [sm.order] at hj
      have hi' : i < 64 * H.nw j := by unfold Heap.nw Heap.npair at hi ⊢; rw [sm.np] at hi; exact hi
      obtain ⟨o1, o2⟩ := h.bits j hj i hi'
      have ew : ((H.turned p k).removed k (hdE H l2 0) (lsA H 0 l1)).pbit j i = (H.turned p k).pbit j i := pbit_word (removed_word ..) _ _
      rw [ew]
      by_cases ek : k = H.order
      · have et : (H.turned p k).pbit j i = H.pbit j i := by unfold Heap.turned; rw [if_pos ek]
        simp only [if_neg (show j ≠ k by omega)]
        rw [et]; exact ⟨o1, o2⟩
      · rw [turned_pbit H ek]
        by_cases e : j = k
        · subst e
          simp only [if_true, true_and, mem', <- e0]
          by_cases ei : i = p / 2 ^ (j + 1)
          · rw [if_pos ei]
            have hbp := bud_ne al
            rcases pair_of al ei with ⟨a, b⟩ | ⟨a, b⟩
            · rw [<- a, <- b] at o1 o2 ⊢
              have hnb : bud p j ∉ fl j := fun hm => o2 ⟨hpm, hm⟩
              rw [<- ei, o1]
              simp [hpm, hnb]
            · rw [<- a, <- b] at o1 o2 ⊢
              have hnb : bud p j ∉ fl j := fun hm => o2 ⟨hm, hpm⟩
              rw [<- ei, o1]
              simp [hpm, hnb]
          · rw [if_neg ei]
            obtain ⟨n1, n2⟩ := pair_ne ei
            simp only [ne_eq, Ne.symm n1, Ne.symm n2, not_false_eq_true, and_true]
            exact ⟨o1, o2⟩
        · rw [if_neg (fun c => e c.1)]
          simp only [if_neg e]
          exact ⟨o1, o2⟩
    sl := by
      intro x hx hn hkd
      rw [sm.np] at hx
      rw [pgG] at hkd
      obtain ⟨c, s⟩ := h.sl x hx (fun f => hn (.inl f)) hkd
      refine ⟨c, s.transfer sm.base (by rw [pgG]; exact Core.refl _) (memE x fun hm => ?_)⟩
      have := ((h.fmem k hk x).1 hm).2.2.1
      omega
    pmem := by
      intro c hc x
      rw [h.pmem c hc x, sm.np, pgG]
      constructor
      · rintro ⟨a, b, d, d2⟩
        refine ⟨a, ?_, d, d2⟩
        rintro (f | f)
        · exact b f
        · rcases g.kinds f with k | k <;> omega
      · rintro ⟨a, b, d⟩; exact ⟨a, fun f => b (.inl f), d⟩
    pnd := h.pnd
    plk := by
      intro c hc
      refine ⟨?_, PSeg.congr (fun q hq => by rw [pgG]; exact ⟨rfl, rfl⟩) (h.plk c hc).2⟩
      rw [removed_part, turned_part]; exact (h.plk c hc).1 }
theorem unlisted_mem (h:Inv H fl pl fc hole) {p k:Nat} (hk:k <= H.order) {l1 l2:List Nat} (e0:fl k=l1++p :: l2) {x:Nat} (hx:x∉fl k) {i:Nat} (hi:i<4096) :
  ((H.turned p k).removed k (hdE H l2 0) (lsA H 0 l1)).mem (4096*x+i)=H.mem (4096*x+i):=by
 have bT:=(same_turned H p k).base
 have e1:=removed_mem (H:=H.turned p k) (k:=k) (p:=p) (l1:=l1) (l2:=l2) x (by rw [<- e0];exact hx) i hi
 rw [hdE_base bT,lsA_base bT] at e1
 rw [e1,turned_mem]
theorem enter_turned (H:Heap) (p k q j:Nat):(H.enter p k).turned q j=(H.turned q j).enter p k:=by
 have ho:(H.enter p k).order=H.order:=(same_enter H p k).order
 unfold Heap.turned
 rw [ho]
 by_cases e:j=H.order
 ·rw [if_pos e,if_pos e]
 ·rw [if_neg e,if_neg e]
  unfold Heap.enter Heap.pushed
  by_cases c:H.head k=0
  ·rw [if_pos (show (H.run p k 0).head k=0 from c),if_pos (show ((H.flip j (q / 2^(j+1))).run p k 0).head k=0 from c)];rfl
  ·rw [if_neg (show ¬ (H.run p k 0).head k=0 from c),if_neg (show ¬ ((H.flip j (q / 2^(j+1))).run p k 0).head k=0 from c)];rfl
theorem removed_turned (H:Heap) (k a b q j:Nat):(H.removed k a b).turned q j=(H.turned q j).removed k a b:=by
 have ho:(H.removed k a b).order=H.order:=(same_removed H k a b).order
 unfold Heap.turned
 rw [ho]
 by_cases e:j=H.order
 ·rw [if_pos e,if_pos e]
 ·rw [if_neg e,if_neg e]
  unfold Heap.removed
  by_cases c:a=0
  ·rw [if_pos c,if_pos c]
   by_cases d:b=0
   ·rw [if_pos d,if_pos d];rfl
   ·rw [if_neg d,if_neg d];rfl
  ·rw [if_neg c,if_neg c]
   by_cases d:b=0
   ·rw [if_pos d,if_pos d];rfl
   ·rw [if_neg d,if_neg d];rfl
end
noncomputable section
variable {H H':Heap} {fl pl fc:Nat -> List Nat} {hole hole':Nat -> Prop}
def IsFr (H:Heap) (x:Nat):Prop:=(H.page x).kind=0 \/ (H.page x).kind=1
structure Keep (H H':Heap) (hole:Nat -> Prop):Prop where
 same:H'.Same H
 part:H'.part=H.part
 lock:H'.lock=H.lock
 held:∀ x,x<H.np -> ¬ hole x -> ¬ IsFr H x -> H'.page x=H.page x /\ ∀ i,i<4096 -> H'.mem (4096*x+i)=H.mem (4096*x+i)
 free:∀ x,x<H.np -> ¬ hole x -> IsFr H x -> IsFr H' x
theorem Keep.trans {H1 H2 H3:Heap} (h:Keep H1 H2 hole) (k:Keep H2 H3 hole):Keep H1 H3 hole where
 same:=Heap.Same.trans k.same h.same
 part:=k.part.trans h.part
 lock:=k.lock.trans h.lock
 held x hx hn hf:=by
  obtain ⟨a,b⟩:=h.held x hx hn hf
  obtain ⟨c,d⟩:=k.held x (by rw [h.same.np];exact hx) hn (by unfold IsFr at hf ⊢;rw [a];exact hf)
  exact ⟨c.trans a,fun i hi=>(d i hi).trans (b i hi)⟩
 free x hx hn hf:=k.free x (by rw [h.same.np];exact hx) hn (h.free x hx hn hf)
theorem Keep.refl (H:Heap) (hole:Nat -> Prop):Keep H H hole:=⟨Heap.Same.refl H,rfl,rfl,fun _ _ _ _=>⟨rfl,fun _ _=>rfl⟩,fun _ _ _ h=>h⟩
theorem Keep.wider (h:Keep H H' hole) (e:∀ x,hole x -> hole' x):Keep H H' hole' :=
 ⟨h.same,h.part,h.lock,fun x hx hn hf=>h.held x hx (fun c=>hn (e x c)) hf,fun x hx hn hf=>h.free x hx (fun c=>hn (e x c)) hf⟩
theorem turned_lock (H:Heap) (p k:Nat):(H.turned p k).lock=H.lock:=by unfold Heap.turned;split <;> rfl
theorem pushed_lock (H:Heap) (k p:Nat):(H.pushed k p).lock=H.lock:=by unfold Heap.pushed;split <;> rfl
theorem removed_lock (H:Heap) (k a b:Nat):(H.removed k a b).lock=H.lock:=by unfold Heap.removed;split <;> split <;> rfl
theorem Inv.keep_entered (h:Inv H fl pl fc hole) {p k:Nat} (hk:k <= H.order) (al:p%2^k=0) (hb:∀ x,x / 2^k=p / 2^k -> hole x):Keep H ((H.turned p k).enter p k) hole where
 same:=Heap.Same.trans (same_enter _ _ _) (same_turned _ _ _)
 part:=by rw [Heap.enter,pushed_part];exact turned_part H p k
 lock:=by rw [Heap.enter,pushed_lock];exact turned_lock H p k
 held x hx hn hf:=by
  refine ⟨by rw [entered_page H al,if_neg (fun e=>hn (hb x e))],fun i hi=>entered_mem h hk (fun e=>hn (by rw [e];exact hb p rfl)) (fun hm=>?_) hi⟩
  exact hf (.inl ((h.fmem k hk x).1 hm).2.2.1)
 free x hx hn hf:=by
  unfold IsFr at hf ⊢
  rw [entered_page H al,if_neg (fun e=>hn (hb x e))];exact hf
theorem Inv.keep_unlisted (h:Inv H fl pl fc hole) {p k:Nat} (hk:k <= H.order) {l1 l2:List Nat} (e0:fl k=l1++p :: l2):Keep H ((H.turned p k).removed k (hdE H l2 0) (lsA H 0 l1)) hole where
 same:=Heap.Same.trans (same_removed _ _ _ _) (same_turned _ _ _)
 part:=by rw [removed_part,turned_part]
 lock:=by rw [removed_lock,turned_lock]
 held x hx hn hf:=by
  refine ⟨by rw [removed_page,turned_page],fun i hi=>unlisted_mem h hk e0 (fun hm=>?_) hi⟩
  exact hf (.inl ((h.fmem k hk x).1 hm).2.2.1)
 free x hx hn hf:=by
  unfold IsFr at hf ⊢
  rw [removed_page,turned_page];exact hf
theorem Inv.cutN {p j:Nat} (h:Inv H fl pl fc (fun x=>x / 2^j=p / 2^j)) (hj:j <= H.order) (al:p%2^j=0) (hp:p+2^j <= H.np) :
  ∀ n,n <= j -> Inv (H.cutN p j n) (fun i=>if j-n <= i /\ i<j then (p+2^i) :: fl i else fl i) pl fc (fun x=>x / 2^(j-n)=p / 2^(j-n)) /\ Keep H (H.cutN p j n) (fun x=>x / 2^j=p / 2^j) ∧
   ∀ x,x / 2^j=p / 2^j -> ¬ x / 2^(j-n)=p / 2^(j-n) -> IsFr (H.cutN p j n) x:=by
 intro n
 induction n with
 |zero =>
  intro _
  refine ⟨?_,Keep.refl _ _,fun x h1 h2=>(h2 h1).elim⟩
  have e:(fun i=>if j-0 <= i /\ i<j then (p+2^i) :: fl i else fl i)=fl:=by
   funext i;rw [if_neg (by omega)]
  rw [e];exact h
 |succ n ih =>
  intro hn
  obtain ⟨h1,k1,f1⟩:=ih (by omega)
  obtain ⟨i,hi⟩:∃ i,i=j-1-n:=⟨_,rfl⟩
  have hji:j-n=i+1:=by omega
  have hji2:j-(n+1)=i:=by omega
  rw [hji] at h1 f1
  rw [hji2]
  have hpos:=pow_pos' i
  have al1:p%2^(i+1)=0:=Nat.mod_eq_zero_of_dvd (Nat.dvd_trans (Nat.pow_dvd_pow 2 (by omega)) (Nat.dvd_of_mod_eq_zero al))
  have al0:p%2^i=0:=Nat.mod_eq_zero_of_dvd (Nat.dvd_trans (Nat.pow_dvd_pow 2 (by omega)) (Nat.dvd_of_mod_eq_zero al))
  have e2:2^(i+1)=2^i+2^i:=by rw [Nat.pow_succ];omega
  have alq:(p+2^i)%2^i=0:=by rw [Nat.add_mod_right];exact al0
  have hle:2^(i+1) <= 2^j:=Nat.pow_le_pow_right (by omega) (by omega)
  have hev:p / 2^i%2=0:=by
   obtain ⟨m,hm⟩:=Nat.dvd_of_mod_eq_zero al1
   rw [hm,Nat.pow_succ,Nat.mul_assoc,Nat.mul_div_cancel_left _ hpos];omega
  have hbudp:bud (p+2^i) i=p:=by
   unfold bud
   rw [Nat.add_div_right _ hpos,if_neg (by omega)];omega
  have sub:∀ x,x / 2^i=(p+2^i) / 2^i -> x / 2^(i+1)=p / 2^(i+1):=by
   intro x hx
   have:=(blk_iff alq).1 hx
   exact (blk_iff al1).2 (by omega)
  have sub2:∀ x,x / 2^(i+1)=p / 2^(i+1) -> x / 2^j=p / 2^j:=by
   intro x hx
   have:=(blk_iff al1).1 hx
   exact (blk_iff al).2 (by omega)
  have sm:=k1.same
  have hflp:∀ m,m <= H.order -> p∉(if i+1 <= m /\ m<j then (p+2^m) :: fl m else fl m):=by
   intro m hm hmem
   have:=((h1.fmem m (by rw [sm.order];exact hm) p).1 hmem).2.1
   exact this rfl
  have hnew:H.cutN p j (n+1)=((H.cutN p j n).turned (p+2^i) i).enter (p+2^i) i:=by
   rw [Heap.cutN, <- hi,Heap.split,enter_turned]
  have hin:=Inv.entered (p:=p+2^i) (k:=i) h1 (by rw [sm.order];omega) alq (by rw [sm.np];omega) sub (fun hlt=>by
   rw [hbudp];exact hflp i (by omega))
  rw [<- hnew] at hin
  refine ⟨?_,?_,?_⟩
  ·have efl:(fun m=>if m=i then (p+2^i) :: (if i+1 <= i /\ i<j then (p+2^i) :: fl i else fl i) else (if i+1 <= m /\ m<j then (p+2^m) :: fl m else fl m))=(fun m=>if i <= m /\ m<j then (p+2^m) :: fl m else fl m):=by
    funext m
    by_cases c:m=i
    ·subst c;rw [if_pos rfl,if_neg (by omega),if_pos (by omega)]
    ·rw [if_neg c]
     by_cases d:i+1 <= m /\ m<j
     ·rw [if_pos d,if_pos (by omega)]
     ·rw [if_neg d,if_neg (by omega)]
   have efl':(fun j_1=>if j_1=i then (p+2^i) :: (fun m=>if i+1 <= m /\ m<j then (p+2^m) :: fl m else fl m) i else (fun m=>if i+1 <= m /\ m<j then (p+2^m) :: fl m else fl m) j_1)=(fun m=>if i <= m /\ m<j then (p+2^m) :: fl m else fl m):=efl
   rw [efl'] at hin
   refine hin.congr_hole fun x=>?_
   rw [blk_iff al1,blk_iff alq,blk_iff al0];omega
  ·have kk:=Inv.keep_entered (p:=p+2^i) (k:=i) h1 (by rw [sm.order];omega) alq sub
   rw [<- hnew] at kk
   exact k1.trans (kk.wider sub2)
  ·intro x hx hn2
   by_cases c:x / 2^(i+1)=p / 2^(i+1)
   ·have hxq:x / 2^i=(p+2^i) / 2^i:=by
     rw [blk_iff al1] at c;rw [blk_iff al0] at hn2;rw [blk_iff alq];omega
    unfold IsFr
    rw [hnew,entered_page _ alq,if_pos hxq]
    by_cases d:x=p+2^i
    ·rw [if_pos d];exact .inl rfl
    ·rw [if_neg d];exact .inr rfl
   ·have:=f1 x hx c
    unfold IsFr at this ⊢
    rw [hnew,entered_page _ alq,if_neg (fun e=>c (sub x e))];exact this
theorem Inv.took (h:Inv H fl pl fc (fun _=>False)) {k j p:Nat} {r:List Nat} (hk:k <= j) (hj:j <= H.order) (e0:fl j=p :: r) :
  (∃ fl',Inv (H.took k j p (hdE H r 0)) fl' pl fc (fun _=>False)) /\ Keep H (H.took k j p (hdE H r 0)) (fun x=>x / 2^j=p / 2^j) /\ p%2^j=0 /\ p+2^j <= H.np /\ (∀ x,x / 2^j=p / 2^j -> IsFr H x) ∧
   (∀ x,x / 2^j=p / 2^j -> ¬ x / 2^k=p / 2^k -> IsFr (H.took k j p (hdE H r 0)) x) /\ (∀ x,x / 2^k=p / 2^k -> (H.took k j p (hdE H r 0)).page x=if x=p then plainP 2 k else plainP (2+1) k) ∧
   (∀ m,m<j-k -> (((H.removed j (hdE H r 0) 0).turned p j).cutN p j m).PushOk (j-1-m)) /\ H.Sound j (H.addr p) (hdE H r 0) 0:=by
 have hpm:p∈fl j:=by rw [e0];simp
 obtain ⟨g,al,hp⟩:=h.free hj hpm
 have e1:fl j=[]++p :: r:=e0
 have hl0:lsA H 0 []=0:=rfl
 have hu:=h.unlisted hj e1
 have ku:=h.keep_unlisted hj e1
 rw [hl0, <- removed_turned] at hu ku
 have hu':=hu.congr_hole (hole':=fun x=>x / 2^j=p / 2^j) (fun x=>by simp)
 have smu:=ku.same
 have hc:=Inv.cutN hu' (by rw [smu.order];exact hj) al (by rw [smu.np];exact hp)
 obtain ⟨hI,hK,hF⟩:=hc (j-k) (by omega)
 have ejk:j-(j-k)=k:=by omega
 rw [ejk] at hI hF
 have alk:p%2^k=0:=Nat.mod_eq_zero_of_dvd (Nat.dvd_trans (Nat.pow_dvd_pow 2 hk) (Nat.dvd_of_mod_eq_zero al))
 have hle:2^k <= 2^j:=Nat.pow_le_pow_right (by omega) hk
 have sub:∀ x,x / 2^k=p / 2^k -> x / 2^j=p / 2^j:=fun x hx=>by rw [blk_iff alk] at hx;rw [blk_iff al];omega
 have smc:=hK.same
 have hfill:=hI.fill (p:=p) (k:=k) (by rw [smc.order,smu.order];omega) alk (fun x hx=>hx)
 have kU:Keep H ((H.removed j (hdE H r 0) 0).turned p j) (fun x=>x / 2^j=p / 2^j):=ku.wider (fun x hx=>hx.elim)
 have kk:=kU.trans hK
 refine ⟨⟨_,hfill.congr_hole (fun x=>⟨fun e=>e.2 e.1,fun e=>e.elim⟩)⟩,?_,al,hp,?_,?_,?_,?_,?_⟩
 ·refine ⟨Heap.Same.trans (same_run _ _ _ _) kk.same,kk.part,kk.lock,fun x hx hn hf=>?_,fun x hx hn hf=>?_⟩
  ·obtain ⟨a,b⟩:=kk.held x hx hn hf
   refine ⟨?_,b⟩
   rw [Heap.took,blk_run alk,if_neg (fun e=>hn (sub x e))];exact a
  ·have:=kk.free x hx hn hf
   unfold IsFr at this ⊢
   rw [Heap.took,blk_run alk,if_neg (fun e=>hn (sub x e))];exact this
 ·intro x hx
  exact g.kinds hx
 ·intro x h1 h2
  have:=hF x h1 h2
  unfold IsFr at this ⊢
  rw [Heap.took,blk_run alk,if_neg h2];exact this
 ·intro x hx
  rw [Heap.took,blk_run alk,if_pos hx]
 ·intro m hm
  obtain ⟨hI',hK',_⟩:=hc m (by omega)
  have hfl:=hI'.flk (j-1-m) (by rw [hK'.same.order,smu.order];omega)
  refine hfl.pushOk fun q hq=>?_
  have hq':=((hI'.fmem (j-1-m) (by rw [hK'.same.order,smu.order];omega) q).1 hq).1
  exact In_addr hI'.ok hq' (by omega)
 ·have:=FL.sound h.ok.base_pos (l1:=[]) (by rw [<- e1];exact h.flk j hj) (by rw [<- e1];exact h.fnd j hj) (fun q hq=>In_addr h.ok ((h.fmem j hj q).1 (by rw [e1];exact hq)).1 (by omega))
  exact this
def _root_.AM.Heap.giveM:Nat -> Heap -> Nat -> Nat -> Heap
 | 0,H,p,k=>(H.turned p k).enter p k
 |n+1,H,p,k=>if (decide (k=H.order) || (H.turned p k).pbit k (p / 2^(k+1)))=true then (H.turned p k).enter p k
  else giveM n ((H.turned p k).removed k (H.w64 (H.addr (bud p k))) (H.w64 (H.addr (bud p k)+8))) (p / 2^(k+1)*2^(k+1)) (k+1)
theorem bud_div {p k:Nat} (al:p%2^k=0):bud p k / 2^(k+1)=p / 2^(k+1) /\ bud p k%2^k=0:=by
 have hp:=pow_pos' k
 have hb:=bud_mul al
 rw [half_div,half_div,hb,Nat.mul_div_cancel _ hp,Nat.mul_mod_left]
 refine ⟨?_,rfl⟩
 generalize p / 2^k=q
 split <;> omega
theorem pair_iff {p k x:Nat} (al:p%2^k=0):x / 2^(k+1)=p / 2^(k+1)↔x / 2^k=p / 2^k \/ x / 2^k=bud p k / 2^k:=by
 have hp:=pow_pos' k
 rw [half_div,half_div,bud_mul al,Nat.mul_div_cancel _ hp]
 generalize p / 2^k=q
 generalize x / 2^k=y
 split <;> omega
theorem turned_bud (H:Heap) {p k:Nat} (al:p%2^k=0):H.turned (bud p k) k=H.turned p k:=by
 unfold Heap.turned;rw [(bud_div al).1]
theorem Inv.bit_of (h:Inv H fl pl fc hole) {p k:Nat} (hk:k<H.order) (al:p%2^k=0) (hp:p<H.np) (hh:hole p):(H.turned p k).pbit k (p / 2^(k+1))=decide (bud p k∉fl k):=by
 have hpn:p∉fl k:=fun hm=>((h.fmem k (by omega) p).1 hm).2.1 hh
 obtain ⟨o1,o2⟩:=h.bits k hk (p / 2^(k+1)) (by have:=half_lt hp hk;unfold Heap.nw;omega)
 rw [turned_pbit H (by omega),if_pos ⟨rfl,rfl⟩,o1]
 rcases pair_of al rfl with ⟨a,b⟩ | ⟨a,b⟩
 ·rw [<- a, <- b,decide_eq_false hpn];simp
 ·rw [<- a, <- b,decide_eq_false hpn];simp
theorem Inv.giveM:∀ (n:Nat) {H:Heap} {fl:Nat -> List Nat} {p k:Nat},H.order <= k+n -> k <= H.order -> p%2^k=0 -> p+2^k <= H.np -> Inv H fl pl fc (fun x=>x / 2^k=p / 2^k) →
  (∃ fl',Inv (H.giveM n p k) fl' pl fc (fun _=>False)) /\ Keep H (H.giveM n p k) (fun x=>x / 2^k=p / 2^k) /\ ∀ x,x / 2^k=p / 2^k -> IsFr (H.giveM n p k) x:=by
 have base:∀ {H:Heap} {fl:Nat -> List Nat} {p k:Nat},k <= H.order -> p%2^k=0 -> p+2^k <= H.np -> Inv H fl pl fc (fun x=>x / 2^k=p / 2^k) -> (k<H.order -> bud p k∉fl k) →
   (∃ fl',Inv ((H.turned p k).enter p k) fl' pl fc (fun _=>False)) /\ Keep H ((H.turned p k).enter p k) (fun x=>x / 2^k=p / 2^k) /\ ∀ x,x / 2^k=p / 2^k -> IsFr ((H.turned p k).enter p k) x:=by
  intro H fl p k hk al hp h hb
  refine ⟨⟨_,(h.entered hk al hp (fun x hx=>hx) hb).congr_hole (fun x=>⟨fun e=>e.2 e.1,fun e=>e.elim⟩)⟩,h.keep_entered hk al (fun x hx=>hx),fun x hx=>?_⟩
  unfold IsFr
  rw [entered_page _ al,if_pos hx]
  by_cases d:x=p
  ·rw [if_pos d];exact .inl rfl
  ·rw [if_neg d];exact .inr rfl
 intro n
 induction n with
 |zero =>
  intro H fl p k h1 h2 al hp h
  exact base h2 al hp h (fun hlt=>by omega)
 |succ n ih =>
  intro H fl p k h1 h2 al hp h
  have hpos:=pow_pos' k
  rw [Heap.giveM]
  by_cases ck:k=H.order
  ·rw [if_pos (by simp [ck])]
   exact base h2 al hp h (fun hlt=>by omega)
  ·have hlt:k<H.order:=by omega
   rw [h.bit_of hlt al (by omega) rfl,decide_eq_false ck,Bool.false_or]
   by_cases cb:bud p k∈fl k
   ·rw [if_neg (by simp [cb])]
    obtain ⟨l1,l2,e0⟩:=List.append_of_mem cb
    obtain ⟨gb,alb,hpb⟩:=h.free h2 cb
    have hu:=h.unlisted h2 e0
    have ku:=h.keep_unlisted h2 e0
    rw [turned_bud H al] at hu ku
    have hs:=FL.sound h.ok.base_pos (by rw [<- e0];exact h.flk k h2) (by rw [<- e0];exact h.fnd k h2) (fun q hq=>In_addr h.ok ((h.fmem k h2 q).1 (by rw [e0];exact hq)).1 (by omega))
    rw [hs.next,hs.prev]
    obtain ⟨q,hq⟩:∃ q,q=p / 2^(k+1)*2^(k+1):=⟨_,rfl⟩
    have hpos2:=pow_pos' (k+1)
    have alq:q%2^(k+1)=0:=by rw [hq];exact Nat.mul_mod_left _ _
    have hqd:q / 2^(k+1)=p / 2^(k+1):=by rw [hq,Nat.mul_div_cancel _ hpos2]
    have hole2:∀ x,(x / 2^k=p / 2^k \/ x / 2^k=bud p k / 2^k)↔x / 2^(k+1)=q / 2^(k+1):=fun x=>by rw [hqd,pair_iff al]
    have hu2:=hu.congr_hole hole2
    have smu:=ku.same
    have hqn:q+2^(k+1) <= H.np:=by
     have hl:=blk_lt (H:=H) (k:=k+1) (x:=p) (y:=q+2^(k+1)-1) hlt (by omega) (by rw [<- hqd];exact (blk_iff alq).2 (by omega))
     omega
    obtain ⟨i1,i2,i3⟩:=ih (H:=(H.turned p k).removed k (hdE H l2 0) (lsA H 0 l1)) (p:=q) (k:=k+1) (by rw [smu.order];omega) (by rw [smu.order];exact hlt) alq (by rw [smu.np];exact hqn) hu2
    rw [<- hq]
    refine ⟨i1,?_,fun x hx=>i3 x ((hole2 x).1 (.inl hx))⟩
    have smx:=Heap.Same.trans i2.same smu
    refine ⟨smx,i2.part.trans ku.part,i2.lock.trans ku.lock,fun x hx hn hf=>?_,fun x hx hn hf=>?_⟩
    ·have hxb:¬ x / 2^(k+1)=q / 2^(k+1):=by
      intro e
      rcases (hole2 x).2 e with e | e
      ·exact hn e
      ·exact hf (gb.kinds e)
     obtain ⟨a,b⟩:=ku.held x hx hn hf
     obtain ⟨c,d⟩:=i2.held x (by rw [smu.np];exact hx) hxb (by unfold IsFr at hf ⊢;rw [a];exact hf)
     exact ⟨c.trans a,fun i hi=>(d i hi).trans (b i hi)⟩
    ·by_cases e:x / 2^(k+1)=q / 2^(k+1)
     ·exact i3 x e
     ·exact i2.free x (by rw [smu.np];exact hx) e (ku.free x hx hn hf)
   ·rw [if_pos (by simp [cb])]
    exact base h2 al hp h (fun _=>cb)
end
noncomputable section
variable {H H':Heap} {fl pl fc:Nat -> List Nat} {hole hole':Nat -> Prop}
theorem PSeg.range {g:Nat -> Page} {N:Nat}:∀ {l:List Nat} {pv e:Int},(∀ q∈l,q<N) -> -1 <= pv -> pv<(N:Int) -> -1 <= e -> e<(N:Int) -> PSeg g pv l e -> ∀ q∈l,(-1 <= (g q).next /\ (g q).next<(N:Int)) /\ -1 <= (g q).prev /\ (g q).prev<(N:Int)
 | [],_,_,_,_,_,_,_,_,q,hq=>by cases hq
 |p :: r,pv,e,hl,h1,h2,h3,h4,h,q,hq=>by
  have hp:=hl p (List.mem_cons_self ..)
  rcases List.mem_cons.1 hq with rfl | hq
  ·refine ⟨?_,by rw [h.2.1];exact ⟨h1,h2⟩⟩
   rw [h.1]
   cases r with
   |nil=>exact ⟨h3,h4⟩
   |cons b r=>have:=hl b (by simp);simp only [hdI];omega
  ·exact PSeg.range (fun q hq=>hl q (List.mem_cons_of_mem _ hq)) (by omega) (by omega) h3 h4 h.2.2 q hq
theorem core_unh1 (H:Heap) (p c x:Nat):Core (H.page x) ((H.unh1 p c).page x):=by
 unfold Heap.unh1
 by_cases c0:0 <= (H.page p).prev
 ·rw [if_pos c0]
  simp only [Heap.setPage]
  by_cases e:x=(H.page p).prev.toNat
  ·rw [if_pos e,e];exact Core.links _ _ _
  ·rw [if_neg e];exact Core.refl _
 ·rw [if_neg c0];exact Core.refl _
theorem core_unh2 (H:Heap) (p c x:Nat):Core (H.page x) ((H.unh2 p c).page x):=by
 unfold Heap.unh2
 by_cases c0:0 <= (H.page p).next
 ·rw [if_pos c0]
  simp only [Heap.setPage]
  by_cases e:x=(H.page p).next.toNat
  ·rw [if_pos e,e];exact (core_unh1 H p c _).trans (Core.links _ _ _)
  ·rw [if_neg e];exact core_unh1 H p c x
 ·rw [if_neg c0];exact core_unh1 H p c x
theorem PL.unhOk {c p:Nat} {l1 l2:List Nat} (h:PL H c (l1++p :: l2)) (nd:(l1++p :: l2).Nodup) (hm:∀ x,x∈l1++p :: l2 -> x<H.np /\ (H.page x).kind=4):H.UnhOk p c:=by
 obtain ⟨h0,hs⟩:=h
 have hr:=PSeg.range (N:=H.np) (fun q hq=>(hm q hq).1) (by omega) (by omega) (by omega) (by omega) hs
 rw [PSeg.append] at hs
 obtain ⟨s1,s2⟩:=hs
 have hnx:(H.page p).next=hdI l2 (-1):=s2.1
 have hpv:(H.page p).prev=lsI (-1) l1:=s2.2.1
 have hp:=hr p (by simp)
 refine ⟨hp.1,hp.2,fun hge=>?_,fun hge=>?_,(core_unh2 H p c p).kind.trans (hm p (by simp)).2⟩
 ·rcases lsA_snoc l1 with rfl | ⟨l1',a,rfl⟩
  ·have h:(H.page p).prev=-1:=hpv;omega
  ·rw [lsI_concat] at hpv
   rw [show (H.page p).prev.toNat=a by omega]
   exact ⟨(hm a (by simp)).2,(hr a (by simp)).2⟩
 ·cases l2 with
  |nil=>have h:(H.page p).next=-1:=hnx;omega
  |cons b r =>
   have h:(H.page p).next=(b:Int):=hnx
   rw [show (H.page p).next.toNat=b by omega]
   have hcb:=core_unh1 H p c b
   have hb:=hm b (by simp)
   have hbr:=hr b (by simp)
   refine ⟨hcb.kind.trans hb.2,?_⟩
   have e:((H.unh1 p c).page b).next=(H.page b).next:=by
    unfold Heap.unh1
    by_cases c0:0 <= (H.page p).prev
    ·rw [if_pos c0]
     simp only [Heap.setPage]
     have hne:b≠(H.page p).prev.toNat:=by
      rcases lsA_snoc l1 with rfl | ⟨l1',a,rfl⟩
      ·have h:(H.page p).prev=-1:=hpv;omega
      ·rw [lsI_concat] at hpv
       rw [List.nodup_append] at nd
       have:=nd.2.2 a (by simp) b (by simp)
       omega
     rw [if_neg hne]
    ·rw [if_neg c0];rfl
   rw [e];exact hbr.1
theorem PL.congr {c:Nat} {l:List Nat} (h:PL H c l) (hp:H'.part c=H.part c) (hl:∀ q∈l,(H'.page q).next=(H.page q).next /\ (H'.page q).prev=(H.page q).prev):PL H' c l :=
 ⟨hp.trans h.1,PSeg.congr hl h.2⟩
theorem Inv.pl_one (h:Inv H fl pl fc hole) {i j x:Nat} (hi:i<8) (hj:j<8) (h1:x∈pl i) (h2:x∈pl j):i=j:=by
 have a:=((h.pmem i hi x).1 h1).2.2.2.1
 have b:=((h.pmem j hj x).1 h2).2.2.2.1
 omega
theorem taken1_page (H:Heap) (p f:Nat) (nf:Int) (x:Nat):(H.taken1 p f nf).page x=if x=p then { (H.page p).own f true with first:=nf } else H.page x:=by
 simp only [Heap.taken1,Heap.setPage,if_true]
 by_cases e:x=p
 ·rw [if_pos e,if_pos e]
 ·rw [if_neg e,if_neg e,if_neg e]
theorem Inv.takeOk (h:Inv H fl pl fc hole) {p c f:Nat} {r:List Nat} (hc:c<8) (hp:p∈pl c) (hf:fc p=f :: r):H.TakeOk p c f (hdI r (-1)):=by
 obtain ⟨h1,h2,h3,h4,h5⟩:=(h.pmem c hc p).1 hp
 obtain ⟨c',s⟩:=h.sl p h1 h2 h3
 have e:c'=c:=by have:=s.cls;omega
 subst e
 rw [hf] at s
 have hseg:=s.seg
 refine ⟨h1,hc,h3,h4,s.first,s.lt f (by simp),s.words,by rw [s.bit f (s.lt f (by simp))];simp,?_,?_,?_⟩
 ·have:=s.live
  have hlen:(f :: r).length <= 256 / 2^c':=by
   have hs:(f :: r) ⊆ List.range (256 / 2^c'):=fun q hq=>List.mem_range.2 (s.lt q hq)
   have:=List.Nodup.length_le_of_subset s.nd hs
   simpa using this
  have:=(w8 hc).2.2.2.2
  omega
 ·cases r with
  |nil=>exact .inl ⟨rfl,hseg.1⟩
  |cons q r =>
   have hq:=s.lt q (by simp)
   refine .inr ⟨by simp [hdI],by simp only [hdI];omega,?_⟩
   simp only [hdI,Int.toNat_natCast];exact hseg.1
 ·intro hn
  obtain ⟨l1,l2,e0⟩:=List.append_of_mem hp
  have hpl:PL (H.taken1 p f (hdI r (-1))) c' (l1++p :: l2):=by
   rw [<- e0]
   refine (h.plk c' hc).congr rfl fun q hq=>?_
   rw [taken1_page]
   by_cases e:q=p
   ·rw [if_pos e,e];exact ⟨rfl,rfl⟩
   ·rw [if_neg e];exact ⟨rfl,rfl⟩
  refine hpl.unhOk (by rw [<- e0];exact h.pnd c' hc) fun x hx=>?_
  rw [<- e0] at hx
  obtain ⟨a,b,d,_⟩:=(h.pmem c' hc x).1 hx
  refine ⟨a,?_⟩
  rw [taken1_page]
  by_cases e:x=p
  ·rw [if_pos e, <- e];exact d
  ·rw [if_neg e];exact d
structure Cellular (H H':Heap) (p:Nat):Prop where
 same:H'.Same H
 head:H'.head=H.head
 word:H'.word=H.word
 core:∀ x,x≠p -> Core (H.page x) (H'.page x)
 kind:(H'.page p).kind=(H.page p).kind
 order:(H'.page p).order=(H.page p).order
 mem:∀ x,x≠p -> ∀ i,i<4096 -> H'.mem (4096*x+i)=H.mem (4096*x+i)
theorem Cellular.kinds {p:Nat} (h:Cellular H H' p) (x:Nat):(H'.page x).kind=(H.page x).kind /\ (H'.page x).order=(H.page x).order:=by
 by_cases e:x=p
 ·subst e;exact ⟨h.kind,h.order⟩
 ·exact ⟨(h.core x e).kind,(h.core x e).order⟩
theorem Inv.cellular {p c:Nat} {fc' pl':Nat -> List Nat} (h:Inv H fl pl fc hole) (w:Cellular H H' p) (ok':H'.OK) (hp:p<H.np) (hh:¬ hole p) (hk4:(H.page p).kind=4) (hcls:(H.page p).cls=(c:Int)) (hc:c<8)
  (hfc:∀ x,x≠p -> fc' x=fc x) (hsl:SlOk H' p c (fc' p)) (hpl:∀ j,j≠c -> pl' j=pl j) (hpc:∀ x,x∈pl' c↔(x∈pl c /\ x≠p) \/ (x=p /\ fc' p≠[])) (hnd:(pl' c).Nodup) (hlk:∀ j,j<8 -> PL H' j (pl' j)) :
  Inv H' fl pl' fc' hole where
 ok:=ok'
 pg x hx hn:=by
  rw [w.same.np] at hx
  obtain ⟨k,fam,q⟩:=h.pg x hx hn
  exact ⟨k,fam,q.transfer w.same.order fun y hy=>⟨(w.kinds y).2,(w.kinds y).1,(q.all y hy).1⟩⟩
 fmem k hk x:=by
  rw [w.same.order] at hk
  rw [h.fmem k hk x,w.same.np,(w.kinds x).1,(w.kinds x).2]
 fnd k hk:=h.fnd k (by rw [w.same.order] at hk;exact hk)
 flk k hk:=by
  rw [w.same.order] at hk
  refine FL.other (h.flk k hk) w.same.base (by rw [w.head]) fun x hx=>w.mem x fun e=>?_
  subst e
  have:=((h.fmem k hk x).1 hx).2.2.1
  omega
 bits k hk i hi:=by
  rw [w.same.order] at hk
  rw [pbit_word w.word]
  exact h.bits k hk i (by unfold Heap.nw Heap.npair at hi ⊢;rw [w.same.np] at hi;exact hi)
 sl x hx hn hkd:=by
  rw [w.same.np] at hx
  rw [(w.kinds x).1] at hkd
  by_cases e:x=p
  ·subst e;exact ⟨c,hsl⟩
  ·obtain ⟨c2,s⟩:=h.sl x hx hn hkd
   rw [hfc x e]
   exact ⟨c2,s.transfer w.same.base (w.core x e) (w.mem x e)⟩
 pmem j hj x:=by
  rw [w.same.np,(w.kinds x).1]
  by_cases ex:x=p
  ·subst ex
   rw [hsl.cls]
   by_cases ej:j=c
   ·subst ej
    rw [hpc]
    constructor
    ·rintro (⟨_,e⟩ | ⟨_,e⟩)
     ·exact (e rfl).elim
     ·exact ⟨hp,hh,hk4,rfl,e⟩
    ·rintro ⟨_,_,_,_,e⟩;exact .inr ⟨rfl,e⟩
   ·rw [hpl j ej,h.pmem j hj x]
    constructor
    ·rintro ⟨_,_,_,e,_⟩;omega
    ·rintro ⟨_,_,_,e,_⟩;omega
  ·rw [(w.core x ex).cls,hfc x ex, <- h.pmem j hj x]
   by_cases ej:j=c
   ·subst ej
    rw [hpc]
    constructor
    ·rintro (⟨e,_⟩ | ⟨e,_⟩)
     ·exact e
     ·exact (ex e).elim
    ·intro e;exact .inl ⟨e,ex⟩
   ·rw [hpl j ej]
 pnd j hj:=by
  by_cases ej:j=c
  ·subst ej;exact hnd
  ·rw [hpl j ej];exact h.pnd j hj
 plk:=hlk
theorem taken_cellular (H:Heap) (p c f:Nat) (nf:Int):Cellular H (H.taken p c f nf) p:=by
 have h1:Cellular H (H.taken1 p f nf) p:=by
  refine ⟨same_taken1 H p f nf,rfl,rfl,fun x hx=>by rw [taken1_page,if_neg hx];exact Core.refl _,by rw [taken1_page,if_pos rfl];rfl,by rw [taken1_page,if_pos rfl];rfl,fun x hx i hi=>rfl⟩
 unfold Heap.taken
 by_cases e:nf<0
 ·rw [if_pos e]
  have hu:∀ x,Core ((H.taken1 p f nf).page x) (((H.taken1 p f nf).unhung p c).page x):=core_unhung _ p c
  have e1:((H.taken1 p f nf).unhung p c).head=H.head /\ ((H.taken1 p f nf).unhung p c).word=H.word /\ ((H.taken1 p f nf).unhung p c).mem=H.mem:=by
   simp only [Heap.unhung,Heap.unh2,Heap.unh1,Heap.setPage,Heap.setPart]
   split <;> split <;> exact ⟨rfl,rfl,rfl⟩
  exact ⟨Heap.Same.trans (same_unhung _ _ _) h1.same,e1.1,e1.2.1,fun x hx=>(h1.core x hx).trans (hu x),(hu p).kind.trans h1.kind,(hu p).order.trans h1.order,fun x hx i hi=>by rw [e1.2.2]⟩
 ·rw [if_neg e];exact h1
theorem Inv.taken (h:Inv H fl pl fc hole) {p c f:Nat} {r:List Nat} (hc:c<8) (hp:p∈pl c) (hf:fc p=f :: r) :
  ∃ pl',Inv (H.taken p c f (hdI r (-1))) fl pl' (fun x=>if x=p then r else fc x) hole:=by
 obtain ⟨h1,h2,h3,h4,h5⟩:=(h.pmem c hc p).1 hp
 obtain ⟨c',s⟩:=h.sl p h1 h2 h3
 have e:c'=c:=by have:=s.cls;omega
 subst e
 rw [hf] at s
 have hfl:=s.lt f (by simp)
 have hn256:=(w8 hc).2.2.2.2
 have nd:=List.nodup_cons.1 s.nd
 have pgE:((H.taken p c' f (hdI r (-1))).page p).cls=(c':Int) /\ (∀ j,((H.taken p c' f (hdI r (-1))).page p).bw j=((H.page p).own f true).bw j) /\ ((H.taken p c' f (hdI r (-1))).page p).live=(H.page p).live+1 /\ ((H.taken p c' f (hdI r (-1))).page p).first=hdI r (-1):=by
  have e1:(H.taken1 p f (hdI r (-1))).page p={ (H.page p).own f true with first:=hdI r (-1) }:=by rw [taken1_page,if_pos rfl]
  unfold Heap.taken
  by_cases e:hdI r (-1)<0
  ·rw [if_pos e]
   have k:=core_unhung (H.taken1 p f (hdI r (-1))) p c' p
   refine ⟨k.cls.trans (by rw [e1];exact s.cls),fun j=>(k.bw j).trans (by rw [e1];rfl),k.live.trans (by rw [e1];rfl),k.first.trans (by rw [e1])⟩
  ·rw [if_neg e,e1]
   exact ⟨s.cls,fun _=>rfl,rfl,rfl⟩
 have hmem:(H.taken p c' f (hdI r (-1))).mem=H.mem:=by
  unfold Heap.taken
  by_cases e:hdI r (-1)<0
  ·rw [if_pos e]
   simp only [Heap.unhung,Heap.unh2,Heap.unh1,Heap.setPage,Heap.setPart]
   split <;> split <;> rfl
  ·rw [if_neg e];rfl
 have sm:=(taken_cellular H p c' f (hdI r (-1))).same
 have hsl:SlOk (H.taken p c' f (hdI r (-1))) p c' r:=by
  refine ⟨hc,pgE.1,fun j=>by rw [pgE.2.1];exact own_words s.words (by omega) j,fun q hq=>s.lt q (List.mem_cons_of_mem _ hq),nd.2,fun q hq=>?_,?_,pgE.2.2.2,?_⟩
  ·have eb:((H.taken p c' f (hdI r (-1))).page p).bit q=((H.page p).own f true).bit q:=by unfold Page.bit;rw [pgE.2.1]
   rw [eb,bit_own _ _ (by omega) (by omega)]
   by_cases e:q=f
   ·subst e
    rw [if_pos rfl,if_neg nd.1,s.bit q hfl];simp
   ·rw [if_neg e,s.bit q hq];simp [e]
  ·rw [pgE.2.2.1]
   have:=s.live
   simp only [List.length_cons] at this
   omega
  ·exact CSeg.congr sm.base (fun q hq=>s.fits (List.mem_cons_of_mem _ hq)) (fun i _=>by rw [hmem]) s.seg.2
 obtain ⟨l1,l2,e0⟩:=List.append_of_mem hp
 have ndp:=h.pnd c' hc
 rw [e0] at ndp
 obtain ⟨np1,np2,nd',mem'⟩:=nodup_mid ndp
 have pl1:∀ j,j<8 -> PL (H.taken1 p f (hdI r (-1))) j (pl j):=fun j hj=>(h.plk j hj).congr rfl fun q hq=>by
  rw [taken1_page]
  by_cases e:q=p
  ·rw [if_pos e,e];exact ⟨rfl,rfl⟩
  ·rw [if_neg e];exact ⟨rfl,rfl⟩
 by_cases er:r=[]
 ·subst er
  have hT:H.taken p c' f (hdI [] (-1))=(H.taken1 p f (-1)).unhung p c':=by unfold Heap.taken;rw [if_pos (by simp [hdI])];rfl
  refine ⟨fun j=>if j=c' then l1++l2 else pl j,Inv.cellular (c:=c') h (taken_cellular H p c' f _) (ok_taken h.ok) h1 h2 h3 h4 hc (fun x hx=>if_neg hx) (by rw [if_pos rfl];exact hsl) (fun j hj=>if_neg hj) ?_ (by rw [if_pos rfl];exact nd') ?_⟩
  ·intro x
   rw [if_pos rfl,mem', <- e0];simp
  ·intro j hj
   have pl1c:=pl1 c' hc
   rw [e0] at pl1c
   rw [hT]
   by_cases ej:j=c'
   ·subst ej;rw [if_pos rfl];exact pl1c.unhang ndp
   ·rw [if_neg ej]
    refine pl1c.unhang_other (pl1 j hj) ej fun x hx hm=>?_
    rw [<- e0] at hm
    exact ej (h.pl_one hj hc hx hm)
 ·have hge:¬ hdI r (-1)<0:=by cases r with | nil=>exact (er rfl).elim | cons b r=>simp [hdI]
  have hT:H.taken p c' f (hdI r (-1))=H.taken1 p f (hdI r (-1)):=by unfold Heap.taken;rw [if_neg hge]
  refine ⟨pl,Inv.cellular (c:=c') h (taken_cellular H p c' f _) (ok_taken h.ok) h1 h2 h3 h4 hc (fun x hx=>if_neg hx) (by rw [if_pos rfl];exact hsl) (fun j hj=>rfl) ?_ (h.pnd c' hc) ?_⟩
  ·intro x
   rw [if_pos rfl]
   constructor
   ·intro hx
    by_cases e:x=p
    ·exact .inr ⟨e,er⟩
    ·exact .inl ⟨hx,e⟩
   ·rintro (e | e)
    ·exact e.1
    ·rw [e.1];exact hp
  ·intro j hj;rw [hT];exact pl1 j hj
end
noncomputable section
variable {H H':Heap} {fl pl fc:Nat -> List Nat} {hole hole':Nat -> Prop}
theorem given1_page (H:Heap) (p q x:Nat):(H.given1 p q).page x=if x=p then (H.page p).own q false else H.page x:=rfl
theorem PL.given1 {c p q:Nat} {l:List Nat} (h:PL H c l):PL (H.given1 p q) c l:=h.congr rfl fun x hx=>by
 rw [given1_page]
 by_cases e:x=p
 ·rw [if_pos e,e];exact ⟨rfl,rfl⟩
 ·rw [if_neg e];exact ⟨rfl,rfl⟩
theorem Inv.slab (h:Inv H fl pl fc hole) {p c:Nat} (hp:p<H.np) (hh:¬ hole p) (hk:(H.page p).kind=4) (hcls:(H.page p).cls=(c:Int)):SlOk H p c (fc p):=by
 obtain ⟨c',s⟩:=h.sl p hp hh hk
 have e:c'=c:=by have:=s.cls;omega
 exact e▸s
theorem Inv.giveOk (h:Inv H fl pl fc hole) {p c q:Nat} (hp:p<H.np) (hh:¬ hole p) (hk:(H.page p).kind=4) (hcls:(H.page p).cls=(c:Int)) (hq:q<256 / 2^c) (hb:(H.page p).bit q=1):H.GiveOk p c q:=by
 have s:=h.slab hp hh hk hcls
 have hc:=s.c8
 have hqf:q∉fc p:=fun hm=>by rw [s.bit q hq,if_pos hm] at hb;cases hb
 have hlen:(fc p).length<256 / 2^c:=by
  have hs:(q :: fc p) ⊆ List.range (256 / 2^c):=fun x hx=>by
   rcases List.mem_cons.1 hx with rfl | hx
   ·exact List.mem_range.2 hq
   ·exact List.mem_range.2 (s.lt x hx)
  have:=List.Nodup.length_le_of_subset (List.nodup_cons.2 ⟨hqf,s.nd⟩) hs
  simp only [List.length_cons,List.length_range] at this
  omega
 have hw:=w8 hc
 have hlv:=s.live
 refine ⟨hp,hc,hk,hcls,hq,s.words,hb,by omega,?_,?_,?_⟩
 ·rw [s.first]
  cases hf:fc p with
  |nil=>simp only [hdI];omega
  |cons x r=>have:=s.lt x (by rw [hf];simp);simp only [hdI];omega
 ·intro h1
  have hne:fc p≠[]:=by intro e;rw [e] at hlv;simp only [List.length_nil,Int.natCast_zero,Int.add_zero] at hlv;omega
  have hm:=(h.pmem c hc p).2 ⟨hp,hh,hk,hcls,hne⟩
  obtain ⟨l1,l2,e0⟩:=List.append_of_mem hm
  have hpl:PL (H.given1 p q) c (l1++p :: l2):=by rw [<- e0];exact (h.plk c hc).given1
  refine hpl.unhOk (by rw [<- e0];exact h.pnd c hc) fun x hx=>?_
  rw [<- e0] at hx
  obtain ⟨a,b,d,_⟩:=(h.pmem c hc x).1 hx
  refine ⟨a,?_⟩
  rw [given1_page]
  by_cases e:x=p
  ·rw [if_pos e, <- e];exact d
  ·rw [if_neg e];exact d
 ·intro h1 h2
  have hnil:fc p=[]:=by
   rw [s.first] at h2
   cases hf:fc p with
   |nil=>rfl
   |cons x r=>rw [hf] at h2;simp only [hdI] at h2;omega
  have hnm:p∉pl c:=fun hm=>((h.pmem c hc p).1 hm).2.2.2.2 hnil
  have hpl:=h.plk c hc
  cases hl:pl c with
  |nil=>rw [hl] at hpl;have h0:H.part c=-1:=hpl.1;exact ⟨by omega,fun h3=>by omega⟩
  |cons b r =>
   rw [hl] at hpl
   have h0:H.part c=(b:Int):=hpl.1
   obtain ⟨a,b2,d,_⟩:=(h.pmem c hc b).1 (by rw [hl];simp)
   refine ⟨by omega,fun _=>?_⟩
   have hbp:b≠p:=fun e=>hnm (by rw [hl,e];simp)
   have hr:=PSeg.range (N:=H.np) (fun x hx=>((h.pmem c hc x).1 (by rw [hl];exact hx)).1) (by omega) (by omega) (by omega) (by omega) hpl.2 b (by simp)
   have e:(((H.given1 p q).hung1 p c).page (H.part c).toNat)=H.page b:=by
    rw [show (H.part c).toNat=b by omega]
    simp only [Heap.hung1,Heap.setPage,if_neg hbp]
    rw [given1_page,if_neg hbp]
   rw [e]
   exact ⟨d,hr.1⟩
theorem given2_page' (H:Heap) (p c q:Nat):(∀ x,x≠p -> Core (H.page x) ((H.given2 p c q).page x)) /\ Core ((H.page p).own q false) ((H.given2 p c q).page p) /\ (H.given2 p c q).mem=H.mem /\ (H.given2 p c q).head=H.head /\ (H.given2 p c q).word=H.word:=by
 have h1:∀ x,x≠p -> Core (H.page x) ((H.given1 p q).page x):=fun x hx=>by rw [given1_page,if_neg hx];exact Core.refl _
 have h2:Core ((H.page p).own q false) ((H.given1 p q).page p):=by rw [given1_page,if_pos rfl];exact Core.refl _
 unfold Heap.given2
 by_cases e:(H.page p).first<0
 ·rw [if_pos e]
  refine ⟨fun x hx=>(h1 x hx).trans (core_hung _ p c x),h2.trans (core_hung _ p c p),?_,?_,?_⟩ <;> (simp only [Heap.hung,Heap.setPart];split <;> rfl)
 ·rw [if_neg e];exact ⟨h1,h2,rfl,rfl,rfl⟩
theorem given_page (H:Heap) (p c q x:Nat):(H.given p c q).page x=if x=p then { (H.given2 p c q).page p with first:=(q:Int) } else (H.given2 p c q).page x:=rfl
theorem Inv.given (h:Inv H fl pl fc hole) {p c q:Nat} (hp:p<H.np) (hh:¬ hole p) (hk:(H.page p).kind=4) (hcls:(H.page p).cls=(c:Int)) (hq:q<256 / 2^c) (hb:(H.page p).bit q=1) :
  (∃ pl',Inv (H.given p c q) fl pl' (fun x=>if x=p then q :: fc p else fc x) hole) /\ Cellular H (H.given p c q) p /\ ∀ i,i<4096 -> (i<q*(16*2^c) \/ q*(16*2^c)+8 <= i) -> (H.given p c q).mem (4096*p+i)=H.mem (4096*p+i):=by
 have s:=h.slab hp hh hk hcls
 have hc:=s.c8
 have hqf:q∉fc p:=fun hm=>by rw [s.bit q hq,if_pos hm] at hb;cases hb
 obtain ⟨w1,w2,w3,w4,w5⟩:=w8 hc
 obtain ⟨g1,g2,g3,g4,g5⟩:=given2_page' H p c q
 have hqfit:=cell_fits hc hq
 have hmem:∀ a,(a<4096*p+q*(16*2^c) \/ 4096*p+q*(16*2^c)+8 <= a) -> (H.given p c q).mem a=H.mem a:=by
  intro a ha
  have:=wr64_mem (H.given2 p c q) (H.addr p+q*(16*2^c)) (H.glink p c) a (by rw [(same_given2 H p c q).base];unfold Heap.addr;omega)
  show ((H.given2 p c q).wr64 (H.addr p+q*(16*2^c)) (H.glink p c)).mem a=_
  rw [this,g3]
 have w:Cellular H (H.given p c q) p:=by
  refine ⟨same_given H p c q,g4,g5,fun x hx=>by rw [given_page,if_neg hx];exact g1 x hx,?_,?_,fun x hx i hi=>hmem _ (by omega)⟩
  ·rw [given_page,if_pos rfl];exact g2.kind
  ·rw [given_page,if_pos rfl];exact g2.order
 have hgl:H.glink p c=match fc p with | []=>0 | q' :: _=>H.addr p+q'*(16*2^c):=by
  unfold Heap.glink
  have hfst:=s.first
  cases hf:fc p with
  |nil=>rw [hf] at hfst;rw [if_pos (show (H.page p).first<0 by rw [hfst];simp [hdI])]
  |cons x r=>rw [hf] at hfst;rw [if_neg (show ¬ (H.page p).first<0 by rw [hfst];simp only [hdI];omega),hfst];simp only [hdI,Int.toNat_natCast]
 have hgl64:H.glink p c<18446744073709551616:=by
  rw [hgl]
  cases hf:fc p with
  |nil=>simp
  |cons x r =>
   have:=cell_fits hc (s.lt x (by rw [hf];simp))
   have:=Go.Proofs.YtlgmpheammbacaaGreatDoor.addr_lt h.ok (p:=p+1) hp
   simp only
   unfold Heap.addr at *
   omega
 have hsl:SlOk (H.given p c q) p c (q :: fc p):=by
  refine ⟨hc,?_,fun j=>?_,fun x hx=>?_,List.nodup_cons.2 ⟨hqf,s.nd⟩,fun x hx=>?_,?_,?_,?_⟩
  ·rw [given_page,if_pos rfl];exact g2.cls.trans s.cls
  ·rw [given_page,if_pos rfl]
   exact (g2.bw j).symm▸own_words s.words (by omega) j
  ·rcases List.mem_cons.1 hx with rfl | hx
   ·exact hq
   ·exact s.lt x hx
  ·rw [given_page,if_pos rfl]
   show ((H.given2 p c q).page p).bit x=_
   rw [g2.bit,bit_own _ _ (by omega) (by omega)]
   by_cases e:x=q
   ·subst e;rw [if_pos rfl,hb];simp
   ·rw [if_neg e,s.bit x hx];simp [e]
  ·rw [given_page,if_pos rfl]
   show ((H.given2 p c q).page p).live+_=_
   rw [g2.live]
   have:=s.live
   show (H.page p).live-1+_=_
   simp only [List.length_cons];omega
  ·rw [given_page,if_pos rfl];rfl
  ·have hba:=(same_given2 H p c q).base
   refine ⟨?_,?_⟩
   ·have ea:(H.given p c q).addr p=H.addr p:=(same_given H p c q).addr p
    rw [ea]
    exact (w64_wr64 (H.given2 p c q) (p:=H.addr p+q*(16*2^c)) hgl64).trans hgl
   ·have key:∀ (f:List Nat),(∀ x∈f,x<256 / 2^c /\ x≠q) -> CSeg H p (16*2^c) f -> CSeg (H.given p c q) p (16*2^c) f:=by
     intro f
     induction f with
     |nil=>intro _ _;trivial
     |cons x r ih =>
      intro hx hs
      refine ⟨?_,ih (fun y hy=>hx y (List.mem_cons_of_mem _ hy)) hs.2⟩
      have ea:(H.given p c q).addr p=H.addr p:=(same_given H p c q).addr p
      rw [ea]
      refine Eq.trans ?_ hs.1
      obtain ⟨x1,x2⟩:=hx x (by simp)
      have hxf:=cell_fits hc x1
      refine w64_ext (same_given H p c q).base fun i hi=>hmem _ ?_
      have hd:x*(16*2^c)+(16*2^c) <= q*(16*2^c) \/ q*(16*2^c)+(16*2^c) <= x*(16*2^c):=by
       rcases Nat.lt_or_gt_of_ne x2 with k | k
       ·left
        have:=Nat.mul_le_mul_right (16*2^c) (show x+1 <= q by omega)
        rw [Nat.add_mul] at this;omega
       ·right
        have:=Nat.mul_le_mul_right (16*2^c) (show q+1 <= x by omega)
        rw [Nat.add_mul] at this;omega
      unfold Heap.addr
      omega
    exact key (fc p) (fun x hx=>⟨s.lt x hx,fun e=>hqf (e▸hx)⟩) s.seg
 refine ⟨?_,w,fun i hi hd=>hmem _ (by omega)⟩
 have okg:=ok_given h.ok (p:=p) (c:=c) (q:=q)
 have nx:∀ x,((H.given p c q).page x).next=((H.given2 p c q).page x).next /\ ((H.given p c q).page x).prev=((H.given2 p c q).page x).prev:=by
  intro x
  rw [given_page]
  by_cases e:x=p
  ·rw [if_pos e,e];exact ⟨rfl,rfl⟩
  ·rw [if_neg e];exact ⟨rfl,rfl⟩
 by_cases hn:fc p=[]
 ·have hf0:(H.page p).first<0:=by rw [s.first,hn];simp [hdI]
  have hnm:p∉pl c:=fun hm=>((h.pmem c hc p).1 hm).2.2.2.2 hn
  have e2:H.given2 p c q=(H.given1 p q).hung p c:=by unfold Heap.given2;rw [if_pos hf0]
  have hpl1:∀ j,j<8 -> PL (H.given1 p q) j (pl j):=fun j hj=>(h.plk j hj).given1
  refine ⟨fun j=>if j=c then p :: pl c else pl j,Inv.cellular (c:=c) h w okg hp hh hk hcls hc (fun x hx=>if_neg hx) (by rw [if_pos rfl];exact hsl) (fun j hj=>if_neg hj) ?_ (by rw [if_pos rfl];exact List.nodup_cons.2 ⟨hnm,h.pnd c hc⟩) ?_⟩
  ·intro x
   rw [if_pos rfl,if_pos rfl]
   constructor
   ·intro hx
    rcases List.mem_cons.1 hx with rfl | hx
    ·exact .inr ⟨rfl,by simp⟩
    ·exact .inl ⟨hx,fun e=>hnm (e▸hx)⟩
   ·rintro (e | e)
    ·exact List.mem_cons_of_mem _ e.1
    ·rw [e.1];exact List.mem_cons_self ..
  ·intro j hj
   by_cases ej:j=c
   ·subst ej
    rw [if_pos rfl]
    refine PL.congr (H:=(H.given1 p q).hung p j) ((hpl1 j hc).hang hnm (h.pnd j hc)) (by show (H.given2 p j q).part j=_;rw [e2]) fun x hx=>?_
    rw [(nx x).1,(nx x).2,e2];exact ⟨rfl,rfl⟩
   ·rw [if_neg ej]
    refine PL.congr (H:=(H.given1 p q).hung p c) ((hpl1 c hc).hang_other (hpl1 j hj) ej (fun hm=>?_) fun x hx hm=>ej (h.pl_one hj hc hx hm)) (by show (H.given2 p c q).part j=_;rw [e2]) fun x hx=>?_
    ·have:=((h.pmem j hj p).1 hm).2.2.2.1
     omega
    ·rw [(nx x).1,(nx x).2,e2];exact ⟨rfl,rfl⟩
 ·have hf0:¬ (H.page p).first<0:=by
   rw [s.first]
   cases hf:fc p with
   |nil=>exact (hn hf).elim
   |cons x r=>simp only [hdI];omega
  have e2:H.given2 p c q=H.given1 p q:=by unfold Heap.given2;rw [if_neg hf0]
  refine ⟨pl,Inv.cellular (c:=c) h w okg hp hh hk hcls hc (fun x hx=>if_neg hx) (by rw [if_pos rfl];exact hsl) (fun j hj=>rfl) ?_ (h.pnd c hc) ?_⟩
  ·intro x
   rw [if_pos rfl]
   constructor
   ·intro hx
    by_cases e:x=p
    ·exact .inr ⟨e,by simp⟩
    ·exact .inl ⟨hx,e⟩
   ·rintro (e | e)
    ·exact e.1
    ·rw [e.1];exact (h.pmem c hc p).2 ⟨hp,hh,hk,hcls,hn⟩
  ·intro j hj
   refine PL.congr (H:=H.given1 p q) (h.plk j hj).given1 (by show (H.given2 p c q).part j=_;rw [e2]) fun x hx=>?_
   rw [(nx x).1,(nx x).2,e2];exact ⟨rfl,rfl⟩
theorem Inv.emptied (h : Inv H fl pl fc hole) {p c q : Nat} (hp : p < H.np) (hh : ¬ hole p) (hk : (H.page p).kind = 4) (hcls : (H.page p).cls = (c : Int)) (hq : q < 256 / 2 ^ c) (hb : (H.page p).bit q = 1) (hlv : (H.page p).live = 1) :
    (∃ pl', Inv (H.emptied p c q) fl pl' fc hole) /\ (H.emptied p c q).mem = H.mem /\ (∀ x, x ≠ p -> Core (H.page x) ((H.emptied p c q).page x)) /\ (H.emptied p c q).page p = plainP 2 0 /\ (H.emptied p c q).Same H := by
  have s := h.slab hp hh hk hcls
  have hc := s.c8
  obtain ⟨w1, w2, w3, w4, w5⟩ := w8 hc
  have hne : fc p ≠ [] := by
    intro e
    have := s.live
    rw [e, hlv] at this
    simp only [List.length_nil, Int.natCast_zero, Int.add_zero] at this
    omega
  have hm := (h.pmem c hc p).2 ⟨hp, hh, hk, hcls, hne⟩
  obtain ⟨l1, l2, e0⟩ := List.append_of_mem hm
  have ndp := h.pnd c hc
  rw [e0] at ndp
  obtain ⟨np1, np2, nd', mem'⟩ := nodup_mid ndp
  obtain ⟨H1, hH1⟩ : ∃ H1, H1 = (H.given1 p q).unhung p c := ⟨_, rfl⟩
  have e1 : H1.head = H.head /\ H1.word = H.word /\ H1.mem = H.mem := by
    rw [hH1]
    simp only [Heap.unhung, Heap.unh2, Heap.unh1, Heap.setPage, Heap.setPart]
    split <;> split <;> exact ⟨rfl, rfl, rfl⟩
  have sm : H1.Same H := by rw [hH1]; exact Heap.Same.trans (same_unhung _ _ _) (same_given1 _ _ _)
  have cr : ∀ x, x ≠ p -> Core (H.page x) (H1.page x) := by
    intro x hx
    have k := core_unhung (H.given1 p q) p c x
    rw [given1_page, if_neg hx] at k
    rw [hH1]; exact k
  have hpl1 : ∀ j, j < 8 -> PL (H.given1 p q) j (pl j) := fun j hj => (h.plk j hj).given1
  have hplc := hpl1 c hc
  rw [e0] at hplc
  obtain ⟨k, fam, g⟩ := h.pg p hp hh
  obtain ⟨rfl, rfl⟩ := g.four hk
  have blk0 : ∀ x, x / 2 ^ 0 = p / 2 ^ 0 ↔ x = p := fun x => by simp
  have h1 : Inv H1 fl (fun j => if j = c then l1 ++ l2 else pl j) fc (fun x => hole x \/ x = p) := {
    ok := by rw [hH1]; exact ok_unhung (ok_given1 h.ok)
    pg := by
      intro x hx hn
      rw [sm.np] at hx
      obtain ⟨j, fam, r⟩ := h.pg x hx (fun c => hn (.inl c))
      refine ⟨j, fam, r.transfer sm.order fun y hy => ?_⟩
      have hyp : y ≠ p := by
        rintro rfl
        obtain ⟨e, e2⟩ := r.one g hy rfl
        subst e
        rw [(blk0 x).1 e2] at hn
        exact hn (.inr rfl)
      refine ⟨(cr y hyp).order, (cr y hyp).kind, ?_⟩
      rintro (f | f)
      · exact (r.all y hy).1 f
      · exact hyp f
    fmem := by
      intro j hj x
      rw [sm.order] at hj
      rw [h.fmem j hj x, sm.np]
      by_cases e : x = p
      · subst e
        constructor
        · rintro ⟨_, _, f, _⟩; omega
        · rintro ⟨_, f, _, _⟩; exact (f (.inr rfl)).elim
      · rw [(cr x e).kind, (cr x e).order]
        constructor
        · rintro ⟨a, b, d⟩; exact ⟨a, fun f => f.elim b e, d⟩
        · rintro ⟨a, b, d⟩; exact ⟨a, fun f => b (.inl f), d⟩
    fnd := fun j hj => h.fnd j (by rw [sm.order] at hj; exact hj)
    flk := by
      intro j hj
      rw [sm.order] at hj
      exact FL.other (h.flk j hj) sm.base (by rw [e1.1]) fun x hx i hi => by rw [e1.2.2]
    bits := by
      intro j hj i hi
      rw [sm.order] at hj
      rw [pbit_word e1.2.1]
      exact h.bits j hj i (by unfold Heap.nw Heap.npair at hi ⊢; rw [sm.np] at hi; exact hi)
    sl := by
      intro x hx hn hkd
      rw [sm.np] at hx
      have hxp : x ≠ p := fun e => hn (.inr e)
      rw [(cr x hxp).kind] at hkd
      obtain ⟨c2, s2⟩ := h.sl x hx (fun e => hn (.inl e)) hkd
      exact ⟨c2, s2.transfer sm.base (cr x hxp) fun i _ => by rw [e1.2.2]⟩
    pmem := by
      intro j hj x
      rw [sm.np]
      have old := h.pmem j hj x
      by_cases ex : x = p
      · subst ex
        constructor
        · intro hx
          by_cases ej : j = c
          · subst ej; rw [if_pos rfl, mem'] at hx; exact (hx.2 rfl).elim
          · rw [if_neg ej] at hx
            have := (old.1 hx).2.2.2.1
            omega
        · rintro ⟨_, f, _⟩; exact (f (.inr rfl)).elim
      · rw [(cr x ex).kind, (cr x ex).cls]
        have e2 : x ∈ (if j = c then l1 ++ l2 else pl j) ↔ x ∈ pl j := by
          by_cases ej : j = c
          · subst ej; rw [if_pos rfl, mem', <- e0]; exact ⟨fun f => f.1, fun f => ⟨f, ex⟩⟩
          · rw [if_neg ej]
        rw [e2, old]
        constructor
        · rintro ⟨a, b, d⟩; exact ⟨a, fun f => f.elim b ex, d⟩
        · rintro ⟨a, b, d⟩; exact ⟨a, fun f => b (.inl f), d⟩
    pnd := by
      intro j hj
      by_cases ej : j = c
      · subst ej; simp only [if_true]; exact nd'
      · simp only [if_neg ej]; exact h.pnd j hj
    plk := by
      intro j hj
      rw [hH1]
      by_cases ej : j = c
      · subst ej; simp only [if_true]; exact hplc.unhang ndp
      · simp only [if_neg ej]
        refine hplc.unhang_other (hpl1 j hj) ej fun x hx hm2 => ?_
        rw [<- e0] at hm2
        exact ej (h.pl_one hj hc hx hm2) }
  have h2 := h1.fill (p := p) (k := 0) (by omega) (by simp [Nat.mod_one]) (fun x hx => .inr ((blk0 x).1 hx))
  have hE : H.emptied p c q = H1.run p 0 2 := by rw [hH1]; rfl
  have al0 : p % 2 ^ 0 = 0 := by simp [Nat.mod_one]
  rw [hE]
  refine ⟨⟨_, h2.congr_hole fun x => ?_⟩, e1.2.2, fun x hx => ?_, ?_, Heap.Same.trans (same_run _ _ _ _) sm⟩
  · rw [blk0]
    constructor
    · rintro ⟨f | f, n⟩
      · exact f
      · exact (n f).elim
    · intro f; exact ⟨.inl f, fun e => hh (e ▸ f)⟩
  · rw [blk_run al0, if_neg (fun e => hx ((blk0 x).1 e))]; exact cr x hx
  · rw [blk_run al0, if_pos rfl, if_pos rfl]; rfl
end
noncomputable section
variable {σ:St}
def blen (n:Nat):Nat:=if n=0 then 0 else n.log2+1
theorem blen_half {x:Nat} (h:1 <= x):blen x=1+blen (x / 2):=by
 unfold blen
 rw [if_neg (by omega),Nat.log2_def]
 by_cases c:2 <= x
 ·rw [if_pos c,if_neg (by omega)];omega
 ·rw [if_neg c,if_pos (by omega)]
theorem blen_shift {x:Nat}:∀ k,2^k <= x -> blen x=k+blen (x / 2^k)
 | 0,_=>by simp
 |k+1,h=>by
  have hk:2^k <= x:=by rw [Nat.pow_succ] at h;omega
  have h1:1 <= x / 2^k:=by rw [Nat.le_div_iff_mul_le (Nat.pow_pos (by omega))];omega
  rw [blen_shift k hk,blen_half h1,Nat.div_div_eq_div_mul,show 2^k*2=2^(k+1) from (Nat.pow_succ ..).symm];omega
theorem blen_lt {x:Nat}:∀ k,x<2^k -> blen x <= k
 | 0,h=>by
  have:x=0:=by simp at h;exact h
  subst this;simp [blen]
 |k+1,h=>by
  rcases Nat.eq_zero_or_pos x with c | c
  ·subst c;simp [blen]
  ·rw [blen_half c]
   have:=blen_lt (x:=x / 2) k (by rw [Nat.pow_succ] at h;omega)
   omega
theorem blen_tab:∀ y:Fin 256,([0,1,2,2,3,3,3,3,4,4,4,4,4,4,4,4,5,5,5,5,5,5,5,5,5,5,5,5,5,5,5,5,6,6,6,6,6,6,6,6,6,6,6,6,6,6,6,6,6,6,6,6,6,6,6,6,6,6,6,6,6,6,6,6,7,7,7,7,7,7,7,7,7,7,7,7,7,7,7,7,7,7,7,7,7,7,7,7,7,7,7,7,7,7,7,7,7,7,7,7,7,7,7,7,7,7,7,7,7,7,7,7,7,7,7,7,7,7,7,7,7,7,7,7,7,7,7,7,8,8,8,8,8,8,8,8,8,8,8,8,8,8,8,8,8,8,8,8,8,8,8,8,8,8,8,8,8,8,8,8,8,8,8,8,8,8,8,8,8,8,8,8,8,8,8,8,8,8,8,8,8,8,8,8,8,8,8,8,8,8,8,8,8,8,8,8,8,8,8,8,8,8,8,8,8,8,8,8,8,8,8,8,8,8,8,8,8,8,8,8,8,8,8,8,8,8,8,8,8,8,8,8,8,8,8,8,8,8,8,8,8,8,8,8,8,8,8,8,8,8,8,8,8,8,8,8]:List Nat)[y.val]?=some (blen y.val):=by decide +kernel
theorem op_indexC {Γ:T AF} {M:List Memo} {s:List Nat} {i:AM.Opd} {tm:T V} {ds:Dfs} {K:V -> Dfs -> St -> Prop}:AM.wpOp Γ M (.indexS (.const (.str s)) i) tm ds σ K=AM.asInt (i.eval tm) fun _ n=>AM.cnd (decide (0 <= n)) (AM.onSome s[n.toNat]? fun b=>K (.int .u8 b) ds σ) False:=by
 show (match AM.evalOp _ _ tm ds σ with | some (v,ds,σ)=>K v ds σ | none=>False)=_
 simp only [AM.evalOp,AM.isPure,AM.pureOp,if_true,AM.eval_const]
 cases i.eval tm with
 |int k n =>
  simp only [AM.asInt]
  by_cases h:0 <= n
  ·simp only [h,if_true,decide_true,AM.cnd_true]
   cases s[n.toNat]? <;> rfl
  ·rw [decide_eq_false h,AM.cnd_false]
   simp only [h,if_false]
 |_=>rfl
def LenAt (c:AC) (bound off:Nat):Prop:=∀ (s:St) (fr:Fr) (K:Post) (m y:Nat),m <= off -> y<bound -> fr.defers=[] -> fr.tmps.get 0=some (.int .u64 y) -> fr.tmps.get 2=some (.int .i64 m) →
 (∀ fr',fr'.defers=[] -> fr'.tmps.get 2=some (.int .i64 (m+blen y:Nat)) -> K .ret fr' s) -> wp G0 [] c fr s K
theorem len3:LenAt (hid (tlC (tlC (tlC (tlC c245.body))))) 256 56:=by
 rintro s ⟨tm,ds⟩ K m y hm hy hds t0 t2 hK
 simp only at hds t0 t2
 subst hds
 rw [hid_eq]
 have e1:IntKind.u8.wrap (y:Int)=(y:Int):=by rw [wu8];omega
 have e2:=blen_tab ⟨y,hy⟩
 simp only at e2
 have hb:=blen_lt (x:=y) 8 hy
 have e3:IntKind.i64.wrap ((blen y:Nat):Int)=((blen y:Nat):Int):=i64_nat (by omega)
 have e4:IntKind.i64.wrap ((m:Int)+((blen y:Nat):Int))=((m+blen y:Nat):Int):=by rw [wi64_id] <;> omega
 have c1:(0:Int) <= (y:Int):=by omega
 simp -implicitDefEqProofs only [tlC,c245]
 simp -implicitDefEqProofs only[go_sem,op_indexC,t0,t2,e1,c1,Int.toNat_natCast,e2,e3,e4]
 refine hK _ rfl ?_
 simp -implicitDefEqProofs only[go_sem]
theorem len2:LenAt (hid (tlC (tlC (tlC (c245.body))))) 65536 48:=by
 rintro s ⟨tm,ds⟩ K m y hm hy hds t0 t2 hK
 simp only at hds t0 t2
 subst hds
 rw [hid_eq]
 refine wp_cut 1 ?_
 simp -implicitDefEqProofs only [tlC,c245,cutC]
 have c0:(0:Int) <= 8:=by decide
 by_cases c1:(256:Int) <= (y:Int)
 ·have e1:shrI .u64 (y:Int) 8=((y / 2^8:Nat):Int):=shr_nat (n:=8) rfl (by omega)
  have e2:IntKind.i64.wrap ((m:Int)+8)=((m+8:Nat):Int):=by rw [wi64_id] <;> omega
  have hsh:=blen_shift (x:=y) 8 (by omega)
  simp -implicitDefEqProofs only[go_sem,t0,t2,c1,c0,bin_shr,e1,e2]
  refine len3 _ _ _ (m+8) (y / 2^8) (by omega) (by omega) rfl ?_ ?_ ?_
  ·simp -implicitDefEqProofs only[go_sem]
  ·simp -implicitDefEqProofs only[go_sem]
  ·rintro ⟨tm,ds⟩ hds t2
   refine hK _ hds ?_
   rw [hsh, <- Nat.add_assoc];exact t2
 ·simp -implicitDefEqProofs only[go_sem,t0,t2,c1,c0]
  refine len3 _ _ _ m y (by omega) (by omega) rfl ?_ ?_ hK
  ·simp -implicitDefEqProofs only[go_sem,t0]
  ·simp -implicitDefEqProofs only[go_sem,t2]
theorem len1:LenAt (hid (tlC (tlC (c245.body)))) 4294967296 32:=by
 rintro s ⟨tm,ds⟩ K m y hm hy hds t0 t2 hK
 simp only at hds t0 t2
 subst hds
 rw [hid_eq]
 refine wp_cut 1 ?_
 simp -implicitDefEqProofs only [tlC,c245,cutC]
 have c0:(0:Int) <= 16:=by decide
 by_cases c1:(65536:Int) <= (y:Int)
 ·have e1:shrI .u64 (y:Int) 16=((y / 2^16:Nat):Int):=shr_nat (n:=16) rfl (by omega)
  have e2:IntKind.i64.wrap ((m:Int)+16)=((m+16:Nat):Int):=by rw [wi64_id] <;> omega
  have hsh:=blen_shift (x:=y) 16 (by omega)
  simp -implicitDefEqProofs only[go_sem,t0,t2,c1,c0,bin_shr,e1,e2]
  refine len2 _ _ _ (m+16) (y / 2^16) (by omega) (by omega) rfl ?_ ?_ ?_
  ·simp -implicitDefEqProofs only[go_sem]
  ·simp -implicitDefEqProofs only[go_sem]
  ·rintro ⟨tm,ds⟩ hds t2
   refine hK _ hds ?_
   rw [hsh, <- Nat.add_assoc];exact t2
 ·simp -implicitDefEqProofs only[go_sem,t0,t2,c1,c0]
  refine len2 _ _ _ m y (by omega) (by omega) rfl ?_ ?_ hK
  ·simp -implicitDefEqProofs only[go_sem,t0]
  ·simp -implicitDefEqProofs only[go_sem,t2]
theorem r_Len64 {x:Nat} (hx:x<18446744073709551616):Runs G0 [] 245 [.int .u64 x] σ fun r σ'=>r=.int .i64 (blen x) /\ σ'=σ:=by
 refine runs_body g245 rfl ?_
 refine wp_cut 2 ?_
 simp -implicitDefEqProofs only [cutC]
 have c0:(0:Int) <= 32:=by decide
 by_cases c1:(4294967296:Int) <= (x:Int)
 ·have e1:shrI .u64 (x:Int) 32=((x / 2^32:Nat):Int):=shr_nat (n:=32) rfl (by omega)
  have hsh:=blen_shift (x:=x) 32 (by omega)
  simp -implicitDefEqProofs only[go_sem,c1,c0,bin_shr,e1]
  refine len1 _ _ _ 32 (x / 2^32) (by omega) (by omega) rfl ?_ ?_ ?_
  ·simp -implicitDefEqProofs only[go_sem]
  ·simp -implicitDefEqProofs only[go_sem];rfl
  ·rintro ⟨tm,ds⟩ hds t2
   simp only at hds t2;subst hds
   simp -implicitDefEqProofs only[go_sem,t2,hsh]
 ·simp -implicitDefEqProofs only[go_sem,c1,c0]
  refine len1 _ _ _ 0 x (by omega) (by omega) rfl ?_ ?_ ?_
  ·simp -implicitDefEqProofs only[go_sem]
  ·simp -implicitDefEqProofs only[go_sem];rfl
  ·rintro ⟨tm,ds⟩ hds t2
   simp only at hds t2;subst hds
   rw [Nat.zero_add] at t2
   simp -implicitDefEqProofs only[go_sem,t2]
end
noncomputable section
variable {σ:St} {A:Slot -> Nat} {H:Heap}
theorem blen_le {x:Nat} (h:x<18446744073709551616):blen x <= 64:=blen_lt (x:=x) 64 h
theorem r_Log {x:Nat} (hx:x<18446744073709551616):Runs G0 [] 202 [.int .u64 x] σ fun r σ'=>r=.int .i64 ((blen x:Int)-1) /\ σ'=σ:=by
 refine runs_body g202 rfl ?_
 obtain ⟨v,σ1,⟨hv,hs⟩,hr⟩:=r_Len64 (σ:=σ) hx
 subst hv hs
 have:=blen_le hx
 have e1:IntKind.i64.wrap ((blen x:Int)-1)=(blen x:Int)-1:=by rw [wi64_id] <;> omega
 simp -implicitDefEqProofs only[go_sem]
 refine runs_ret hr ?_
 simp -implicitDefEqProofs only[go_sem,e1]
def isPow (x:Nat):Bool:=decide (x≠0) && decide (x &&& (x-1)=0)
theorem r_IsPower {x:Nat} (hx:x<18446744073709551616):Runs G0 [] 193 [.int .u64 x] σ fun r σ'=>r=.bool (isPow x) /\ σ'=σ:=by
 refine runs_body g193 rfl ?_
 rcases Nat.eq_zero_or_pos x with c | c
 ·subst c
  simp -implicitDefEqProofs only[go_sem,Int.natCast_zero,ne_eq,not_true_eq_false]
  rfl
 ·have d1:¬ ((x:Int)=0):=by omega
  have e1:IntKind.u64.wrap ((x:Int)-1)=((x-1:Nat):Int):=by rw [wu64_id] <;> omega
  have e2:=u64_and (a:=x) (b:=x-1) hx (by omega)
  simp -implicitDefEqProofs only[go_sem,d1,ne_eq,not_false_eq_true,e1,e2]
  unfold isPow
  rw [show decide (x≠0)=true by simp;omega,Bool.true_and]
  exact congrArg V.bool (decide_eq_decide.mpr (by omega))
def ceilP (x:Nat):Nat:=if x <= 1 then 1 else 2^blen (x-1)
theorem r_Ceil {x:Nat} (hx:x <= 9223372036854775808):Runs G0 [] 198 [.int .u64 x] σ fun r σ'=>r=.tuple [.int .u64 (ceilP x),.bool true] /\ σ'=σ:=by
 refine runs_body g198 rfl ?_
 by_cases c:x <= 1
 ·have d1:(x:Int) <= 1:=by omega
  simp -implicitDefEqProofs only[go_sem,d1]
  unfold ceilP;rw [if_pos c];rfl
 ·have d1:¬ ((x:Int) <= 1):=by omega
  have e1:IntKind.u64.wrap ((x:Int)-1)=((x-1:Nat):Int):=by rw [wu64_id] <;> omega
  obtain ⟨v,σ1,⟨hv,hs⟩,hr⟩:=r_Log (σ:=σ) (x:=x-1) (by omega)
  subst hv hs
  have hb:=blen_lt (x:=x-1) 63 (by omega)
  have hb1:1 <= blen (x-1):=by rw [blen_half (by omega)];omega
  have e2:IntKind.i64.wrap ((blen (x-1):Int)-1+1)=(blen (x-1):Int):=by rw [wi64_id] <;> omega
  have e0:IntKind.u64.wrap 1=1:=rfl
  have hp:2^blen (x-1) <= 2^63:=Nat.pow_le_pow_right (by omega) hb
  have hp0:0<2^blen (x-1):=Nat.pow_pos (by omega)
  have e3:shlI .u64 1 (blen (x-1):Int)=((2^blen (x-1):Nat):Int):=by
   have:=u64_shl (a:=1) (n:=blen (x-1)) (by omega) (by omega)
   rw [Nat.one_mul] at this;exact this
  have d2:(0:Int) <= (blen (x-1):Int):=by omega
  have d3:¬ (((2^blen (x-1):Nat):Int)=0):=by omega
  simp -implicitDefEqProofs only[go_sem,d1,e0,e1]
  refine runs_ret hr ?_
  simp -implicitDefEqProofs only[go_sem,d1,e0,e1,e2,bin_shl,d2,e3,d3,ne_eq,not_false_eq_true]
  unfold ceilP;rw [if_neg c]
theorem r_CeilBig {x:Nat} (h1:9223372036854775808<x) (hx:x<18446744073709551616):Runs G0 [] 198 [.int .u64 x] σ fun r σ'=>r=.tuple [.int .u64 0,.bool false] /\ σ'=σ:=by
 refine runs_body g198 rfl ?_
 have d1:¬ ((x:Int) <= 1):=by omega
 have e1:IntKind.u64.wrap ((x:Int)-1)=((x-1:Nat):Int):=by rw [wu64_id] <;> omega
 obtain ⟨v,σ1,⟨hv,hs⟩,hr⟩:=r_Log (σ:=σ) (x:=x-1) (by omega)
 subst hv hs
 have hb:blen (x-1)=64:=by
  have h2:=blen_le (x:=x-1) (by omega)
  have h3:63 <= (x-1).log2:=(Nat.le_log2 (by omega)).2 (by omega)
  have h4:blen (x-1)=(x-1).log2+1:=by unfold blen;rw [if_neg (by omega)]
  omega
 rw [hb] at hr
 have e0:IntKind.u64.wrap 1=1:=rfl
 have e2:IntKind.i64.wrap (((64:Nat):Int)-1+1)=64:=by rw [wi64_id] <;> omega
 have e3:shlI .u64 1 64=0:=by decide
 have d2:(0:Int) <= 64:=by omega
 simp -implicitDefEqProofs only[go_sem,d1,e0,e1]
 refine runs_ret hr ?_
 simp -implicitDefEqProofs only[go_sem,d1,e0,e1,e2,bin_shl,d2,e3,ne_eq,not_true_eq_false]
theorem ceilP_big {x:Nat} (h1:9223372036854775808<x) (hx:x<18446744073709551616):ceilP x=18446744073709551616:=by
 have h3:63 <= (x-1).log2:=(Nat.le_log2 (by omega)).2 (by omega)
 have h2:=blen_le (x:=x-1) (by omega)
 have h4:blen (x-1)=(x-1).log2+1:=by unfold blen;rw [if_neg (by omega)]
 have hb:blen (x-1)=64:=by omega
 unfold ceilP
 rw [if_neg (by omega),hb]
theorem r_order {x:Nat} (hx:x<18446744073709551616):Runs G0 [] 157 [.int .u64 x] σ fun r σ'=>r=.int .i64 ((blen (x / 4096):Int)-1) /\ σ'=σ:=by
 refine runs_body g157 rfl ?_
 have c2:(4096:Int)≠0:=by decide
 have e2:IntKind.u64.wrap ((x:Int).tdiv 4096)=((x / 4096:Nat):Int):=u64_div (b:=4096) hx
 obtain ⟨v,σ1,⟨hv,hs⟩,hr⟩:=r_Log (σ:=σ) (x:=x / 4096) (by omega)
 subst hv hs
 simp -implicitDefEqProofs only[go_sem,bin_quo,c2,ne_eq,not_false_eq_true,e2]
 refine runs_ret hr ?_
 simp -implicitDefEqProofs only[go_sem]
theorem r_class {x:Nat} (hx:x<18446744073709551616):Runs G0 [] 204 [.int .u64 x] σ fun r σ'=>r=.int .i64 ((blen (x / 16):Int)-1) /\ σ'=σ:=by
 refine runs_body g204 rfl ?_
 have c2:(16:Int)≠0:=by decide
 have e2:IntKind.u64.wrap ((x:Int).tdiv 16)=((x / 16:Nat):Int):=u64_div (b:=16) hx
 obtain ⟨v,σ1,⟨hv,hs⟩,hr⟩:=r_Log (σ:=σ) (x:=x / 16) (by omega)
 subst hv hs
 simp -implicitDefEqProofs only[go_sem,bin_quo,c2,ne_eq,not_false_eq_true,e2]
 refine runs_ret hr ?_
 simp -implicitDefEqProofs only[go_sem]
theorem rsz_lt (ok:H.OK):H.rsz <= 9223372036854775808:=by
 have:=Nat.pow_le_pow_right (n:=2) (by omega) ok.order_le
 unfold Heap.rsz;omega
theorem r_region (hR:HRep σ A H) (ok:H.OK):Runs G0 [] 199 [.ptr (some (A .heap,0))] σ fun r σ'=>r=.int .u64 H.rsz /\ σ'=σ:=by
 refine runs_body g199 rfl ?_
 have h4:=hR.cell (s:=.heap) trivial (i:=4) (show 4<7 by omega)
 rw [show H.cell A .heap 4=.int .i64 H.order from rfl] at h4
 have ho:=ok.order_le
 have hz:=rsz_lt ok
 have d2:(0:Int) <= (H.order:Int):=by omega
 have e3:shlI .u64 4096 (H.order:Int)=(H.rsz:Int):=by
  unfold Heap.rsz at hz
  exact u64_shl (a:=4096) (n:=H.order) (by omega) (by omega)
 simp -implicitDefEqProofs only[go_sem,h4,bin_shl,d2,e3]
theorem pure_max {x y z:AM.Opd} {tm:T V}:AM.pureOp (.maxmin true [x,y,z]) tm=AM.maxV true (x.eval tm) [y.eval tm,z.eval tm]:=rfl
theorem maxV_nat {a b c:Nat}:AM.maxV true (.int .u64 a) [.int .u64 b,.int .u64 c]=some (.int .u64 (max (max a b) c:Nat)):=by
 simp only [AM.maxV,if_true]
 congr 2
 by_cases h:(b:Int) > (a:Int)
 ·rw [if_pos h]
  by_cases h2:(c:Int) > (b:Int)
  ·rw [if_pos h2];omega
  ·rw [if_neg h2];omega
 ·rw [if_neg h]
  by_cases h2:(c:Int) > (a:Int)
  ·rw [if_pos h2];omega
  ·rw [if_neg h2];omega
def roundP (n a:Nat):Nat:=ceilP (max (max n a) 16)
theorem r_round (hR:HRep σ A H) (ok:H.OK) {n a:Nat} (hn:n<18446744073709551616) (ha:a<18446744073709551616):Runs G0 [] 154 [.ptr (some (A .heap,0)),.int .u64 n,.int .u64 a] σ fun r σ' =>
  r=(if isPow a=false then .tuple [.int .u64 0,.int .i64 1] else if H.rsz<roundP n a then .tuple [.int .u64 0,.int .i64 3] else .tuple [.int .u64 (roundP n a),.int .i64 0]) /\ σ'=σ:=by
 refine runs_body g154 rfl ?_
 obtain ⟨v,σ1,⟨hv,hs⟩,hr1⟩:=r_IsPower (σ:=σ) (x:=a) (by omega)
 subst hv hs
 simp -implicitDefEqProofs only[go_sem]
 refine runs_ret hr1 ?_
 cases hi:isPow a with
 |false =>
  simp -implicitDefEqProofs only[go_sem,Bool.not_false,if_true]
 |true =>
  have hm:=maxV_nat (a:=n) (b:=a) (c:=16)
  obtain ⟨m,hmm⟩:∃ m,m=max (max n a) 16:=⟨_,rfl⟩
  rw [<- hmm] at hm
  have hm':AM.maxV true (.int .u64 n) [.int .u64 a,.int .u64 16]=some (.int .u64 (m:Nat)):=hm
  have hmr:roundP n a=ceilP m:=by unfold roundP;rw [hmm]
  by_cases hbig:9223372036854775808<m
  ·have hz:=rsz_lt ok
   have hcb:=ceilP_big hbig (by omega)
   obtain ⟨v,σ2,⟨hv,hs⟩,hr2⟩:=r_CeilBig (σ:=σ1) (x:=m) hbig (by omega)
   subst hv hs
   have c:H.rsz<ceilP m:=by omega
   rw [hmr]
   simp -implicitDefEqProofs only[go_sem,Bool.not_true,pure_max,hm']
   refine runs_ret hr2 ?_
   simp -implicitDefEqProofs only[go_sem,Bool.not_true,Bool.not_false,c,if_true,if_false,Bool.true_eq_false]
  simp -implicitDefEqProofs only[go_sem,Bool.not_true,pure_max,hm']
  obtain ⟨v,σ2,⟨hv,hs⟩,hr2⟩:=r_Ceil (σ:=σ1) (x:=m) (by omega)
  subst hv hs
  refine runs_ret hr2 ?_
  obtain ⟨v,σ3,⟨hv,hs⟩,hr3⟩:=r_region hR ok
  subst hv hs
  simp -implicitDefEqProofs only[go_sem,Bool.not_true]
  refine runs_ret hr3 ?_
  rw [hmr]
  by_cases c:H.rsz<ceilP m
  ·have d:(H.rsz:Int)<(ceilP m:Int):=by omega
   simp -implicitDefEqProofs only[go_sem,Bool.not_true,d,c,if_true,if_false,Bool.true_eq_false]
  ·have d:¬ ((H.rsz:Int)<(ceilP m:Int)):=by omega
   simp -implicitDefEqProofs only[go_sem,Bool.not_true,d,c,if_true,if_false,Bool.true_eq_false]
end
noncomputable section
variable {σ:St} {A:Slot -> Nat} {H:Heap}
theorem blen_pow (k:Nat):blen (2^k)=k+1:=by
 have h:=blen_shift (x:=2^k) k (Nat.le_refl _)
 rw [h,Nat.div_self (Nat.pow_pos (by omega))];rfl
theorem heap_pool (hR:HRep σ A H):σ.cell (A .heap) 5=some (.ptr (some (A .pool,0))):=hR.cell (s:=.heap) trivial (i:=5) (show 5<7 by omega)
theorem heap_slab (hR:HRep σ A H):σ.cell (A .heap) 6=some (.ptr (some (A .slab,0))):=hR.cell (s:=.heap) trivial (i:=6) (show 6<7 by omega)
theorem r_takeS (hR:HRep σ A H) {c:Nat} (hc:c<8) {d:V} {a e:Int} {g:Bool} {P:St -> Prop}
  (h:Runs G0 [] 203 [.ptr (some (A .slab,0)),.int .i64 c,d] σ fun r σ'=>P σ' /\ r=.tuple [.int .u64 a,.bool g,.int .i64 e]) :
  Runs G0 [] 158 [.ptr (some (A .heap,0)),.int .u64 (16*2^c:Nat),d] σ fun r σ'=>P σ' /\ r=.tuple [.int .u64 a,.int .i64 e]:=by
 refine runs_body g158 rfl ?_
 obtain ⟨w1,w2,w3,w4,w5⟩:=w8 hc
 have h6:=heap_slab hR
 obtain ⟨v,σ1,⟨hv,hs⟩,hr1⟩:=r_class (σ:=σ) (x:=16*2^c) (by omega)
 rw [Nat.mul_div_cancel_left _ (by omega),blen_pow,show ((c+1:Nat):Int)-1=(c:Int) by omega] at hv
 subst hv hs
 obtain ⟨v,σ2,⟨hp,hv⟩,hr2⟩:=h
 subst hv
 obtain ⟨w,hw⟩:∃ w,w=16*2^c:=⟨_,rfl⟩
 rw [<- hw] at hr1 w3 ⊢
 have c1:(w:Int)<4096:=by omega
 simp -implicitDefEqProofs only[go_sem,c1,h6]
 refine runs_ret hr1 ?_
 simp -implicitDefEqProofs only[go_sem]
 refine runs_ret hr2 ?_
 simp -implicitDefEqProofs only[go_sem]
 exact ⟨by simp -implicitDefEqProofs only [h6,sameV_refl,Bool.and_self],hp⟩
theorem r_takeP (hR:HRep σ A H) {k:Nat} (hk:k <= 40) {d:V} {a e:Int} {g:Bool} {P:St -> Prop}
  (h:Runs G0 [] 205 [.ptr (some (A .pool,0)),.int .i64 k,d] σ fun r σ'=>P σ' /\ r=.tuple [.int .u64 a,.bool g,.int .i64 e]) :
  Runs G0 [] 158 [.ptr (some (A .heap,0)),.int .u64 (4096*2^k:Nat),d] σ fun r σ'=>P σ' /\ r=.tuple [.int .u64 a,.int .i64 e]:=by
 refine runs_body g158 rfl ?_
 have hp40:2^k <= 2^40:=Nat.pow_le_pow_right (by omega) hk
 have hp0:0<2^k:=Nat.pow_pos (by omega)
 have h5:=heap_pool hR
 obtain ⟨v,σ1,⟨hv,hs⟩,hr1⟩:=r_order (σ:=σ) (x:=4096*2^k) (by omega)
 rw [Nat.mul_div_cancel_left _ (by omega),blen_pow,show ((k+1:Nat):Int)-1=(k:Int) by omega] at hv
 subst hv hs
 obtain ⟨v,σ2,⟨hp,hv⟩,hr2⟩:=h
 subst hv
 obtain ⟨w,hw⟩:∃ w,w=4096*2^k:=⟨_,rfl⟩
 rw [<- hw] at hr1 ⊢
 have c1:¬ ((w:Int)<4096):=by omega
 simp -implicitDefEqProofs only[go_sem,c1,h5]
 refine runs_ret hr1 ?_
 simp -implicitDefEqProofs only[go_sem]
 refine runs_ret hr2 ?_
 simp -implicitDefEqProofs only[go_sem]
 exact ⟨by simp -implicitDefEqProofs only [h5,sameV_refl,Bool.and_self],hp⟩
theorem r_mallocE (hR:HRep σ A H) (ok:H.OK) {n a:Nat} {d:V} (hn:n<18446744073709551616) (ha:a<18446744073709551616) (h:isPow a=false \/ H.rsz<roundP n a) :
  Runs G0 [] 121 [.ptr (some (A .heap,0)),.int .u64 n,.int .u64 a,d] σ fun r σ'=>r=.tuple [.agg [.int .u64 0,.int .u64 0],.int .i64 (if isPow a=false then 1 else 3)] /\ Grow σ σ':=by
 refine runs_body g121 rfl ?_
 have g1:=Grow.new σ (.cells false 0 2 [.int .u64 0,.int .u64 0] .nil)
 have R1:=hR.new (.cells false 0 2 [.int .u64 0,.int .u64 0] .nil) rfl
 have hst:=new_store (σ:=σ) (z:=[.int .u64 0,.int .u64 0]) (vs:=[.int .u64 0,.int .u64 0]) (n:=2) (by simp) rfl
 have L:=Lcl.lay σ 2 [.int .u64 0,.int .u64 0] [.int .u64 0,.int .u64 0] rfl
 have hl:=L.load (off:=0) (k:=2) (by omega)
 rw [show ((List.range 2).map fun j=>lst [V.int .u64 0,V.int .u64 0] (0+j))=[V.int .u64 0,V.int .u64 0] from rfl] at hl
 obtain ⟨v,σ2,⟨hv,hs⟩,hr2⟩:=r_round R1 ok (n:=n) (a:=a) hn ha
 have e:fillP [V.int .u64 0,.int .u64 0] []=some [V.int .u64 0,.int .u64 0]:=rfl
 subst hs
 cases hi:isPow a with
 |false =>
  rw [hi,if_pos rfl] at hv;subst hv
  simp -implicitDefEqProofs only[go_sem,List.length_cons,List.length_nil]
  refine runs_ret hr2 ?_
  have d1:(1:Int)≠0:=by decide
  simp -implicitDefEqProofs only[go_sem,d1,ne_eq,not_false_eq_true,evalParts,e,vcells_agg,List.length_cons,List.length_nil,hst,hl,if_true]
  exact Grow.lay _ _ _ _
 |true =>
  have hlt:H.rsz<roundP n a:=by rcases h with h | h;rw [hi] at h;cases h;exact h
  rw [hi,if_neg (by decide),if_pos hlt] at hv;subst hv
  simp -implicitDefEqProofs only[go_sem,List.length_cons,List.length_nil]
  refine runs_ret hr2 ?_
  have d1:(3:Int)≠0:=by decide
  simp -implicitDefEqProofs only[go_sem,d1,ne_eq,not_false_eq_true,evalParts,e,vcells_agg,List.length_cons,List.length_nil,hst,hl,if_false,Bool.true_eq_false]
  exact Grow.lay _ _ _ _
end
noncomputable section
variable {σ:St} {A:Slot -> Nat} {H H':Heap}
theorem r_malloc (hR:HRep σ A H) (ok:H.OK) {n a:Nat} {d:V} (hn:n<18446744073709551616) (ha:a<18446744073709551616) (hi:isPow a=true) (hle:¬ H.rsz<roundP n a) {adr e:Int}
  (ht:∀ s,HRep s A H -> Runs G0 [] 158 [.ptr (some (A .heap,0)),.int .u64 (roundP n a),d] s fun r s'=>∃ A',HRep s' A' H' /\ A' .heap=A .heap /\ r=.tuple [.int .u64 adr,.int .i64 e]) :
  Runs G0 [] 121 [.ptr (some (A .heap,0)),.int .u64 n,.int .u64 a,d] σ fun r σ'=>∃ A',HRep σ' A' H' /\ A' .heap=A .heap /\ r=.tuple [.agg [.int .u64 (if e=0 then adr else 0),.int .u64 (if e=0 then roundP n a else 0)],.int .i64 e]:=by
 refine runs_body g121 rfl ?_
 have R1:=hR.new (.cells false 0 2 [.int .u64 0,.int .u64 0] .nil) rfl
 have L1:=Lcl.of_new σ [.int .u64 0,.int .u64 0] 2 (.inl (by simp))
 have N1:∀ s,H.has s -> A s≠σ.next:=fun s hs=>by have:=hR.lt (s:=s) hs;omega
 simp -implicitDefEqProofs only[go_sem,List.length_cons,List.length_nil]
 generalize σ.next=lx at L1 N1 ⊢
 generalize σ.new (.cells false 0 2 _ .nil)=σ1 at R1 L1 ⊢
 obtain ⟨v,σ2,⟨hv,hs⟩,hr2⟩:=r_round R1 ok (n:=n) (a:=a) hn ha
 rw [hi,if_neg (by decide),if_neg hle] at hv
 subst hv hs
 refine runs_ret hr2 ?_
 simp -implicitDefEqProofs only[go_sem,List.length_cons,List.length_nil,ne_eq,not_true_eq_false]
 obtain ⟨v,σ3,⟨A',R3,⟨hA,hv⟩,lf⟩,hr3⟩:=HRep.call (H':=H') (P:=fun v A'=>A' .heap=A .heap /\ v=.tuple [.int .u64 adr,.int .i64 e]) (Γ:=G0) (Γ':=G0) (M:=[]) (fun _ _ h=>h) (fun _ h=>(List.not_mem_nil h).elim) R1 ht
 subst hv
 refine runs_ret hr3 ?_
 have L3:=L1.left R1 lf N1
 have N3:=L1.not_own R1 lf N1
 have e0:fillP [V.int .u64 0,.int .u64 0] []=some [V.int .u64 0,.int .u64 0]:=rfl
 have e1:fillP [V.int .u64 0,.int .u64 0] [(0,1,.int .u64 adr),(1,1,.int .u64 (roundP n a))]=some [V.int .u64 adr,.int .u64 (roundP n a)]:=rfl
 by_cases c:e=0
 ·subst c
  obtain ⟨σ4,hs4,L4,w4,P4⟩:=L3.store R3.gw (off:=0) (vs:=[.int .u64 adr,.int .u64 (roundP n a)]) (by simp) rfl
  have R4:=R3.other w4 N3 P4 (R3.wid.not_lcl L3)
  have hl:=L4.load (off:=0) (k:=2) (by omega)
  rw [show ((List.range 2).map fun j=>over (fun i=>[V.int .u64 0,V.int .u64 0].getD (i% [V.int .u64 0,V.int .u64 0].length) .undef) 0 [V.int .u64 adr,V.int .u64 (roundP n a)] (0+j))=[V.int .u64 adr,V.int .u64 (roundP n a)] from rfl] at hl
  simp -implicitDefEqProofs only[go_sem,List.length_cons,List.length_nil,ne_eq,not_true_eq_false,evalParts,e1,vcells_agg,hs4,hl,if_true]
  exact ⟨A',R4,hA⟩
 ·obtain ⟨σ4,hs4,L4,w4,P4⟩:=L3.store R3.gw (off:=0) (vs:=[.int .u64 0,.int .u64 0]) (by simp) rfl
  have R4:=R3.other w4 N3 P4 (R3.wid.not_lcl L3)
  have hl:=L4.load (off:=0) (k:=2) (by omega)
  rw [show ((List.range 2).map fun j=>over (fun i=>[V.int .u64 0,V.int .u64 0].getD (i% [V.int .u64 0,V.int .u64 0].length) .undef) 0 [V.int .u64 0,V.int .u64 0] (0+j))=[V.int .u64 0,V.int .u64 0] from rfl] at hl
  simp -implicitDefEqProofs only[go_sem,List.length_cons,List.length_nil,ne_eq,c,not_false_eq_true,evalParts,e0,vcells_agg,hs4,hl,if_false]
  exact ⟨A',R4,hA⟩
end
noncomputable section
variable {σ:St} {A:Slot -> Nat} {H H':Heap}
def _root_.AM.Heap.setLock (H:Heap) (l:Int):Heap:={ H with lock:=l }
theorem ok_setLock (ok:H.OK) {l:Int}:(H.setLock l).OK:=⟨ok.base_pos,ok.order_le,ok.limit_pos,ok.limit_le,ok.pages_le,ok.end_le,ok.base_al,ok.regs_le,ok.mem_lt,ok.head_lt,ok.word_lt,ok.parts,ok.pages⟩
theorem lock_store (hR:HRep σ A H) (l:Int):∃ σ',σ.store (A .heap) 0 [.int .i32 l]=some σ' /\ HRep σ' A (H.setLock l):=by
 obtain ⟨σ1,hs1,hR1,_⟩:=hR.store (H':=H.setLock l) (s:=.heap) trivial (off:=0) (vs:=[.int .i32 l]) (show 0+1 <= 7 by omega) rfl
  (fun t ht=>ht) (fun t _=>by cases t <;> rfl) (by
   intro t ht i hi
   cases t with
   |heap =>
    rw [if_pos rfl]
    have hi7:i<7:=hi
    rcases (by omega:i=0 \/ i=1 \/ i=2 \/ i=3 \/ i=4 \/ i=5 \/ i=6) with rfl | rfl | rfl | rfl | rfl | rfl | rfl <;> rfl
   |_=>rw [if_neg (by simp)];rfl)
 exact ⟨σ1,hs1,hR1⟩
theorem r_lock (hR:HRep σ A H) (h:H.lock=0):Runs G0 [] 68 [.ptr (some (A .heap,0))] σ fun r σ'=>HRep σ' A (H.setLock 1) /\ r=.tuple []:=by
 have h0:=hR.cell (s:=.heap) trivial (i:=0) (show 0<7 by omega)
 rw [show H.cell A .heap 0=.int .i32 H.lock from rfl,h] at h0
 obtain ⟨σ1,hs,R1⟩:=lock_store hR 1
 exact runs_ext gLock rfl (show AM.extCall .lock _ _=some (.tuple [],σ1) by simp only [AM.extCall,h0,hs,Option.map_some]) ⟨R1,rfl⟩
theorem r_unlock (hR:HRep σ A H) (h:H.lock=1):Runs G0 [] 69 [.ptr (some (A .heap,0))] σ fun r σ'=>HRep σ' A (H.setLock 0) /\ r=.tuple []:=by
 have h0:=hR.cell (s:=.heap) trivial (i:=0) (show 0<7 by omega)
 rw [show H.cell A .heap 0=.int .i32 H.lock from rfl,h] at h0
 obtain ⟨σ1,hs,R1⟩:=lock_store hR 0
 exact runs_ext gUnlock rfl (show AM.extCall .unlock _ _=some (.tuple [],σ1) by simp only [AM.extCall,h0,hs,Option.map_some]) ⟨R1,rfl⟩
theorem r_AlignedAlloc (hR:HRep σ A H) {n a:V} {d:V} (hl:H.lock=0) {x y e:Int} (hl':H'.lock=1)
  (hm:∀ s,HRep s A (H.setLock 1) -> Runs G0 [] 121 [.ptr (some (A .heap,0)),n,a,d] s fun r s'=>∃ A',HRep s' A' H' /\ A' .heap=A .heap /\ r=.tuple [.agg [.int .u64 x,.int .u64 y],.int .i64 e]) :
  Runs G0 [] 61 [.ptr (some (A .heap,0)),a,n,d] σ fun r σ'=>∃ A',HRep σ' A' (H'.setLock 0) /\ A' .heap=A .heap /\ r=.tuple [.int .u64 x,.int .i64 e]:=by
 refine runs_body g61 rfl ?_
 obtain ⟨v,σ1,⟨R1,hv⟩,hr1⟩:=r_lock hR hl
 subst hv
 simp -implicitDefEqProofs only[go_sem]
 refine runs_ret hr1 ?_
 obtain ⟨v,σ2,⟨A',R2,hA,hv⟩,hr2⟩:=hm _ R1
 subst hv
 simp -implicitDefEqProofs only[go_sem]
 refine runs_ret hr2 ?_
 have hst:=new_store (σ:=σ2) (z:=[.int .u64 0,.int .u64 0]) (vs:=[.int .u64 x,.int .u64 y]) (n:=2) (by simp) rfl
 have R3:=R2.lay (n:=2) (z:=[.int .u64 0,.int .u64 0]) (vs:=[.int .u64 x,.int .u64 y]) (by simp) rfl
 have L3:=Lcl.lay σ2 2 [.int .u64 0,.int .u64 0] [.int .u64 x,.int .u64 y] rfl
 have m0:=L3.cell (i:=0) (by omega)
 rw [show lst [V.int .u64 x,.int .u64 y] 0=.int .u64 x from rfl] at m0
 obtain ⟨v,σ4,⟨R4,hv⟩,hr4⟩:=r_unlock R3 hl'
 subst hv
 rw [hA] at hr4
 simp -implicitDefEqProofs only[go_sem,List.length_cons,List.length_nil,vcells_agg,hst,m0,wpDefers_cons]
 refine ⟨.inr gUnlock,?_⟩
 refine runs_ret hr4 ?_
 simp -implicitDefEqProofs only[go_sem]
 exact ⟨A',R4,hA⟩
end
noncomputable section
variable {σ:St} {A:Slot -> Nat} {H H':Heap}
theorem heap_base (hR:HRep σ A H):σ.cell (A .heap) 2=some (.int .u64 H.base):=hR.cell (s:=.heap) trivial (i:=2) (show 2<7 by omega)
theorem pool_space (hR:HRep σ A H):σ.cell (A .pool) 0=some (.ptr (some (A .space,0))):=hR.cell (s:=.pool) trivial (i:=0) (show 0<3 by omega)
theorem base_al (ok:H.OK):H.base%4096=0:=by
 have h:=ok.base_al
 unfold Heap.rsz at h
 exact Nat.mod_eq_zero_of_dvd (Nat.dvd_trans ⟨2^H.order,rfl⟩ (Nat.dvd_of_mod_eq_zero h))
theorem fin_np4 (H:Heap):H.fin=H.base+4096*H.np:=by
 unfold Heap.fin Heap.rsz Heap.np
 rw [Nat.mul_assoc,Nat.mul_comm (2^H.order)]
end
noncomputable section
variable {σ:St} {A:Slot -> Nat} {H H':Heap}
end
noncomputable section
variable {σ:St} {A:Slot -> Nat} {H H':Heap}
end
noncomputable section
variable {σ:St} {A:Slot -> Nat} {H H':Heap}
theorem pool_buddy (hR:HRep σ A H):σ.cell (A .pool) 2=some (.ptr (some (A .buddy,0))):=hR.cell (s:=.pool) trivial (i:=2) (show 2<3 by omega)
theorem r_PGive (hR:HRep σ A H) {a k:V} {Q:V -> St -> Prop} (h:Runs G0 [] 228 [.ptr (some (A .buddy,0)),a,k] σ Q) :
  Runs G0 [] 174 [.ptr (some (A .pool,0)),a,k] σ Q:=by
 refine runs_body g174 rfl ?_
 have h2:=pool_buddy hR
 obtain ⟨v,σ1,hq,hr⟩:=h
 simp -implicitDefEqProofs only[go_sem,h2]
 refine runs_ret hr ?_
 simp -implicitDefEqProofs only[go_sem]
 exact hq
theorem r_giveS (hR:HRep σ A H) {a w:Int} (hw:w<4096) {P:St -> Prop} (h:∀ s,HRep s A H -> Runs G0 [] 173 [.ptr (some (A .slab,0)),.int .u64 a] s fun _ s'=>P s') :
  Runs G0 [] 127 [.ptr (some (A .heap,0)),.agg [.int .u64 a,.int .u64 w]] σ fun r s'=>P s':=by
 refine runs_body g127 rfl ?_
 have g1:Grow σ (σ.newCells [.int .u64 a,.int .u64 w]):=Grow.new _ _
 have R1:HRep (σ.newCells [.int .u64 a,.int .u64 w]) A H:=hR.new _ rfl
 have L1:=Lcl.of_cells σ [.int .u64 a,.int .u64 w]
 have m0:=L1.cell (i:=0) (by simp)
 rw [show lst [V.int .u64 a,.int .u64 w] 0=.int .u64 a from rfl] at m0
 have m1:=L1.cell (i:=1) (by simp)
 rw [show lst [V.int .u64 a,.int .u64 w] 1=.int .u64 w from rfl] at m1
 have h6:=heap_slab R1
 obtain ⟨v,σ2,hp,hr2⟩:=h _ R1
 simp -implicitDefEqProofs only[go_sem,vcells_agg,List.length_cons,List.length_nil,m0,m1,hw,h6]
 refine runs_ret hr2 ?_
 simp -implicitDefEqProofs only[go_sem]
 exact ⟨by simp -implicitDefEqProofs only [h6,m0,sameV_refl,Bool.and_self],hp⟩
theorem r_giveP (hR:HRep σ A H) {a:Int} {k:Nat} (hk:k <= 40) {P:St -> Prop} (h:∀ s,HRep s A H -> Runs G0 [] 228 [.ptr (some (A .buddy,0)),.int .u64 a,.int .i64 k] s fun _ s'=>P s') :
  Runs G0 [] 127 [.ptr (some (A .heap,0)),.agg [.int .u64 a,.int .u64 (4096*2^k:Nat)]] σ fun r s'=>P s':=by
 refine runs_body g127 rfl ?_
 have hp40:2^k <= 2^40:=Nat.pow_le_pow_right (by omega) hk
 have hp0:0<2^k:=Nat.pow_pos (by omega)
 have hr0:∀ s:St,Runs G0 [] 157 [.int .u64 (4096*2^k:Nat)] s fun r s'=>r=.int .i64 k /\ s'=s:=by
  intro s
  obtain ⟨v,σ1,⟨hv,hs⟩,hr1⟩:=r_order (σ:=s) (x:=4096*2^k) (by omega)
  rw [Nat.mul_div_cancel_left _ (by omega),blen_pow,show ((k+1:Nat):Int)-1=(k:Int) by omega] at hv
  exact runs_ret hr1 ⟨hv,hs⟩
 obtain ⟨w,hw⟩:∃ w,w=4096*2^k:=⟨_,rfl⟩
 rw [<- hw] at hr0 ⊢
 have c1:¬ ((w:Int)<4096):=by omega
 have R1:HRep (σ.newCells [.int .u64 a,.int .u64 w]) A H:=hR.new _ rfl
 have L1:=Lcl.of_cells σ [.int .u64 a,.int .u64 w]
 have m0:=L1.cell (i:=0) (by simp)
 rw [show lst [V.int .u64 a,.int .u64 w] 0=.int .u64 a from rfl] at m0
 have m1:=L1.cell (i:=1) (by simp)
 rw [show lst [V.int .u64 a,.int .u64 w] 1=.int .u64 w from rfl] at m1
 have h5:=heap_pool R1
 obtain ⟨v,σ2,⟨hv,hs⟩,hr2⟩:=hr0 (σ.newCells [.int .u64 a,.int .u64 w])
 subst hv hs
 obtain ⟨v,σ3,hp,hr3⟩:=r_PGive R1 (h _ R1)
 simp -implicitDefEqProofs only[go_sem,vcells_agg,List.length_cons,List.length_nil,m0,m1,c1,h5]
 refine runs_ret hr2 ?_
 simp -implicitDefEqProofs only[go_sem,m0,m1,h5]
 refine runs_ret hr3 ?_
 simp -implicitDefEqProofs only[go_sem,m0,m1,h5]
 exact hp
end
noncomputable section
variable {σ:St} {A:Slot -> Nat} {H H':Heap}
theorem r_Need (hR:HRep σ A H) {k d:V} {a e:Int} {P:St -> Prop} (he:e≠2)
  (h:Runs G0 [] 248 [.ptr (some (A .buddy,0)),k] σ fun r s=>P s /\ r=.tuple [.int .u64 a,.int .i64 e]) :
  Runs G0 [] 205 [.ptr (some (A .pool,0)),k,d] σ fun r s=>P s /\ r=.tuple [.int .u64 a,.bool false,.int .i64 e]:=by
 refine runs_body g205 rfl ?_
 have h2:=pool_buddy hR
 obtain ⟨v,σ1,⟨hp,hv⟩,hr⟩:=h
 subst hv
 simp -implicitDefEqProofs only[go_sem,h2]
 refine runs_ret hr ?_
 simp -implicitDefEqProofs only[go_sem,he,ne_eq,not_false_eq_true]
 exact hp
theorem r_NeedE (hR:HRep σ A H) {k d:V} {e x:Int} {P:St -> Prop} (he:e≠0)
  (h:Runs G0 [] 248 [.ptr (some (A .buddy,0)),k] σ fun r s=>s=σ /\ r=.tuple [.int .u64 0,.int .i64 2])
  (hc:Runs G0 [] 249 [.ptr (some (A .space,0)),d] σ fun r s=>P s /\ r=.tuple [.int .u64 x,.int .i64 e]) :
  Runs G0 [] 205 [.ptr (some (A .pool,0)),k,d] σ fun r s=>P s /\ r=.tuple [.int .u64 0,.bool false,.int .i64 e]:=by
 refine runs_body g205 rfl ?_
 have h2:=pool_buddy hR
 have h0:=pool_space hR
 obtain ⟨v,σ1,⟨hs,hv⟩,hr⟩:=h
 subst hv hs
 obtain ⟨v,σ2,⟨hp,hv⟩,hr2⟩:=hc
 subst hv
 simp -implicitDefEqProofs only[go_sem,h2]
 refine runs_ret hr ?_
 simp -implicitDefEqProofs only[go_sem,ne_eq,not_true_eq_false,h0]
 refine runs_ret hr2 ?_
 simp -implicitDefEqProofs only[go_sem,he,ne_eq,not_false_eq_true]
 exact hp
theorem r_NeedG (hR:HRep σ A H) {k d:V} {a x:Int} {P:St -> Prop} {m:Nat}
  (h:Runs G0 [] 248 [.ptr (some (A .buddy,0)),k] σ fun r s=>s=σ /\ r=.tuple [.int .u64 0,.int .i64 2])
  (hc:Runs G0 [] 249 [.ptr (some (A .space,0)),d] σ fun r s=>(s.cell (A .pool) 1=some (.ptr (some (m,0))) ∧
   Runs G0 [] 250 [.ptr (some (m,0))] s fun r s2=>s2.cell (A .pool) 2=some (.ptr (some (A .buddy,0))) ∧
    Runs G0 [] 251 [.ptr (some (A .buddy,0))] s2 fun r s3=>s3.cell (A .pool) 2=some (.ptr (some (A .buddy,0))) ∧
     Runs G0 [] 248 [.ptr (some (A .buddy,0)),k] s3 fun r s4=>P s4 /\ r=.tuple [.int .u64 a,.int .i64 0]) /\ r=.tuple [.int .u64 x,.int .i64 0]) :
  Runs G0 [] 205 [.ptr (some (A .pool,0)),k,d] σ fun r s=>P s /\ r=.tuple [.int .u64 a,.bool true,.int .i64 0]:=by
 refine runs_body g205 rfl ?_
 have h2:=pool_buddy hR
 have h0:=pool_space hR
 obtain ⟨v,σ1,⟨hs,hv⟩,hr⟩:=h
 subst hv hs
 obtain ⟨v,σ2,⟨⟨h1,v3,σ3,⟨h22,v4,σ4,⟨h32,v5,σ5,⟨hp,hv5⟩,hr5⟩,hr4⟩,hr3⟩,hv⟩,hr2⟩:=hc
 subst hv hv5
 simp -implicitDefEqProofs only[go_sem,h2]
 refine runs_ret hr ?_
 simp -implicitDefEqProofs only[go_sem,ne_eq,not_true_eq_false,h0]
 refine runs_ret hr2 ?_
 simp -implicitDefEqProofs only[go_sem,ne_eq,not_true_eq_false,h1]
 refine runs_ret hr3 ?_
 simp -implicitDefEqProofs only[go_sem,h22]
 refine runs_ret hr4 ?_
 simp -implicitDefEqProofs only[go_sem,h32]
 refine runs_ret hr5 ?_
 simp -implicitDefEqProofs only[go_sem]
 exact hp
theorem r_CommitE (hR:HRep σ A H) (ok:H.OK) {d:Bool} (h:d=true \/ H.regs=H.limit) :
  Runs G0 [] 249 [.ptr (some (A .space,0)),.bool d] σ fun r s=>s=σ /\ r=.tuple [.int .u64 0,.int .i64 2]:=by
 refine runs_body g249 rfl ?_
 have h4:=hR.cell (s:=.space) trivial (i:=4) (show 4<5 by omega)
 have h1:=hR.cell (s:=.space) trivial (i:=1) (show 1<5 by omega)
 rw [show H.cell A .space 1=.int .i64 H.limit from rfl] at h1
 obtain ⟨b,hb⟩:∃ b,H.partsV A=.slice b H.regs 1 \/ (H.partsV A=.slice b H.regs 0):=by
  unfold Heap.partsV
  by_cases c:H.hasParts=true
  ·rw [if_pos c];exact ⟨_,.inl rfl⟩
  ·rw [if_neg c]
   have:H.regs=0:=by
    rcases Nat.eq_zero_or_pos H.regs with z | z
    ·exact z
    ·exact absurd (ok.parts z) c
   rw [this];exact ⟨none,.inr rfl⟩
 rw [show H.cell A .space 4=H.partsV A from rfl] at h4
 cases d with
 |true=>simp -implicitDefEqProofs only[go_sem,if_true]
 |false =>
  have hr:H.regs=H.limit:=by rcases h with h | h;cases h;exact h
  have c1:(H.regs:Int)=(H.limit:Int):=by omega
  rcases hb with hb | hb <;> rw [hb] at h4
  ·simp -implicitDefEqProofs only[go_sem,h4,h1,c1,if_true,if_false,Bool.false_eq_true]
  ·simp -implicitDefEqProofs only[go_sem,h4,h1,c1,if_true,if_false,Bool.false_eq_true]
end
noncomputable section
variable {σ:St} {A:Slot -> Nat} {H H':Heap} {has:Slot -> Prop} {size:Slot -> Nat} {cell:Slot -> Nat -> V}
structure RepF (σ:St) (has:Slot -> Prop) (A:Slot -> Nat) (size:Slot -> Nat) (cell:Slot -> Nat -> V):Prop where
 gw:GW σ
 wid:Wid σ
 inj:∀ s t,has s -> has t -> A s=A t -> s=t
 row:∀ s,has s -> Row σ (A s) (size s) (cell s)
 cut:∀ s t o,has s -> has t -> s≠t -> σ.objs.get (A s)=some o -> o.grp≠0 -> A t∉σ.row o.grp
theorem repF (h:HRep σ A H):RepF σ H.has A H.size (H.cell A):=⟨h.gw,h.wid,h.inj,h.row,h.cut⟩
theorem RepF.hrep (h:RepF σ has A size cell) (e1:∀ t,H.has t -> has t) (e2:∀ t,H.has t -> H.size t <= size t) (e3:∀ t,H.has t -> ∀ i,i<H.size t -> cell t i=H.cell A t i):HRep σ A H :=
 ⟨h.gw,h.wid,fun s t a b=>h.inj s t (e1 s a) (e1 t b),fun s a=>(h.row s (e1 s a)).congr (e2 s a) (e3 s a),fun s t o a b=>h.cut s t o (e1 s a) (e1 t b)⟩
def upd {α:Type} (f:Slot -> α) (s:Slot) (x:α):Slot -> α:=fun t=>if t=s then x else f t
theorem upd_same {α:Type} {f:Slot -> α} {s:Slot} {x:α}:upd f s x s=x:=if_pos rfl
theorem upd_ne {α:Type} {f:Slot -> α} {s t:Slot} {x:α} (h:t≠s):upd f s x t=f t:=if_neg h
theorem RepF.is_lt (h:RepF σ has A size cell) {s:Slot} (hs:has s):A s<σ.next:=by
 obtain ⟨g,m,z,t,hm,ho,hc⟩:=h.row s hs
 exact h.gw.is_lt ho
theorem RepF.new (h:RepF σ has A size cell) {s0:Slot} (hs:¬ has s0) {n:Nat} {z:List V} {t:T V} {f:Nat -> V} (hf:∀ i,i<n -> cellOf n z t i=some (f i)) :
  RepF (σ.new (.cells false 0 n z t)) (fun t=>has t \/ t=s0) (upd A s0 σ.next) (upd size s0 n) (upd cell s0 f):=by
 have g1:=Grow.new σ (.cells false 0 n z t)
 have hw:=h.gw.new (.cells false 0 n z t) rfl
 have hat:∀ s,has s -> (σ.new (.cells false 0 n z t)).objs.get (A s)=σ.objs.get (A s):=fun s hs=>g1.old _ (h.is_lt hs)
 have hget:(σ.new (.cells false 0 n z t)).objs.get σ.next=some (.cells false 0 n z t):=by simp only [St.new,T.get_set,if_true]
 have hne:∀ s,has s -> s≠s0:=fun s a e=>hs (e▸a)
 refine ⟨hw,h.wid.of_get (g1.old _ ?_),?_,?_,?_⟩
 ·obtain ⟨m,z,t,hm,ho,hc⟩:=h.wid
  exact h.gw.is_lt ho
 ·rintro a b (ha | rfl) (hb | rfl) e
  ·rw [upd_ne (hne a ha),upd_ne (hne b hb)] at e;exact h.inj a b ha hb e
  ·rw [upd_ne (hne a ha),upd_same] at e;have:=h.is_lt ha;omega
  ·rw [upd_ne (hne b hb),upd_same] at e;have:=h.is_lt hb;omega
  ·rfl
 ·rintro a (ha | rfl)
  ·rw [upd_ne (hne a ha),upd_ne (hne a ha),upd_ne (hne a ha)]
   obtain ⟨g,m,z',t',hm,ho,hc⟩:=h.row a ha
   exact ⟨g,m,z',t',hm,by rw [hat a ha];exact ho,hc⟩
  ·rw [upd_same,upd_same,upd_same]
   exact ⟨0,n,z,t,Nat.le_refl _,hget,hf⟩
 ·rintro a b o (ha | rfl) hb hab ho hg
  ·rw [upd_ne (hne a ha),hat a ha] at ho
   have hrow:(σ.new (.cells false 0 n z t)).row o.grp=σ.row o.grp:=by simp only [St.row,g1.grps]
   rw [hrow]
   rcases hb with hb | rfl
   ·rw [upd_ne (hne b hb)];exact h.cut a b o ha hb hab ho hg
   ·rw [upd_same];intro k;have:=h.gw.lt _ _ k;omega
  ·rw [upd_same,hget] at ho
   simp only [Option.some.injEq] at ho;subst ho
   exact absurd rfl hg
theorem RepF.append (h:RepF σ has A size cell) {s0:Slot} (hs:has s0) {esz bytes k xl:Nat} {vs:List V} {v:V} {σ':St} (hsz:size s0=xl*esz)
  (ha:appendL σ esz bytes k vs (some (A s0,0)) xl=some (v,σ')) :
  v=.slice (some (σ.next,0)) (xl+k) esz /\ σ'.next=σ.next+1 ∧
  RepF σ' has (upd A s0 σ.next) (upd size s0 (xl*esz+vs.length)) (upd cell s0 fun i=>if i<xl*esz then cell s0 i else lst vs (i-xl*esz)):=by
 have hw:=h.gw.appendL ha
 obtain ⟨g,n,z,t,old,hg,hold,hv,hn,hgr,hat⟩:=appendL_at ha
 have hrow0:=h.row s0 hs
 have hload:=hrow0.load (off:=0) (k:=xl*esz) (by omega)
 have hold':σ.load (A s0) 0 (xl*esz)=some old:=by simp only [St.load,hg,hold]
 rw [hold',Option.some.injEq] at hload
 have hol:old.length=xl*esz:=by rw [hload];simp
 have hnext:∀ s,has s -> A s≠σ.next:=fun s a=>by have:=h.is_lt a;omega
 have hst:∀ s,has s -> s≠s0 -> σ'.objs.get (A s)=σ.objs.get (A s):=by
  intro s hs' hne
  have h1:A s≠A s0:=fun e=>hne (h.inj s s0 hs' hs e)
  have h2:¬ (g≠0 /\ A s∈σ.row g):=fun ⟨k1,k2⟩=>h.cut s0 s _ hs hs' (Ne.symm hne) hg k1 k2
  have h3:¬ (g≠0 /\ A s∈(σ.row g).drop 8):=fun ⟨k1,k2⟩=>h2 ⟨k1,List.mem_of_mem_drop k2⟩
  rw [hat,if_neg (hnext s hs'),if_neg h3,if_neg h1,if_neg h2]
 have hnew:σ'.objs.get σ.next=some (.cells false (if g=0 then σ.next else g) (old++vs).length [] (ofList (old++vs))):=by rw [hat,if_pos rfl]
 have hg0:g≠0 -> A s0∈σ.row g /\ g<σ.next:=fun k=>h.gw.mem _ _ hg k
 have hrow':∀ x,σ'.row x=if x=(if g=0 then σ.next else g) then (σ.next :: (if g=0 then [A s0] else (σ.row g).take 8)) else σ.row x:=by
  intro x
  simp only [St.row,hgr,T.get_set]
  by_cases c:x=(if g=0 then σ.next else g)
  ·rw [if_pos c,if_pos c];rfl
  ·rw [if_neg c,if_neg c]
 have hgrp:∀ s o,has s -> s≠s0 -> σ.objs.get (A s)=some o -> o.grp≠0 -> o.grp≠(if g=0 then σ.next else g):=by
  intro s o hs' hne ho hgo e
  by_cases c:g=0
  ·rw [if_pos c] at e
   have:=(h.gw.mem _ _ ho hgo).2;omega
  ·rw [if_neg c] at e
   have:=h.cut s s0 o hs' hs hne ho hgo
   rw [e] at this;exact this (hg0 c).1
 refine ⟨hv,hn,hw,h.wid.of_get ?_,?_,?_,?_⟩
 ·obtain ⟨m,z',t',hm,ho,hc⟩:=h.wid
  have h1:widthsId≠A s0:=h.wid.not_row hrow0
  have h2:¬ (g≠0 /\ widthsId∈σ.row g):=fun ⟨k1,k2⟩=>by
   have:=h.gw.grp _ _ _ k2 ho rfl
   exact k1 this.symm
  have h3:¬ (g≠0 /\ widthsId∈(σ.row g).drop 8):=fun ⟨k1,k2⟩=>h2 ⟨k1,List.mem_of_mem_drop k2⟩
  have h4:widthsId≠σ.next:=by have:=h.gw.is_lt ho;omega
  rw [hat,if_neg h4,if_neg h3,if_neg h1,if_neg h2]
 ·intro a b ha' hb' e
  by_cases ca:a=s0
  ·by_cases cb:b=s0
   ·rw [ca,cb]
   ·rw [ca,upd_same,upd_ne cb] at e;exact absurd e.symm (hnext b hb')
  ·by_cases cb:b=s0
   ·rw [cb,upd_same,upd_ne ca] at e;exact absurd e (hnext a ha')
   ·rw [upd_ne ca,upd_ne cb] at e;exact h.inj a b ha' hb' e
 ·intro a ha'
  by_cases ca:a=s0
  ·subst ca
   rw [upd_same,upd_same,upd_same]
   refine ⟨_,_,_,_,?_,hnew,fun i hi=>?_⟩
   ·rw [List.length_append,hol];exact Nat.le_refl _
   ·rw [cellOf_ofList,List.getElem?_append,hol]
    by_cases c:i<xl*esz
    ·rw [if_pos c];show _=some (if i<xl*esz then _ else _);rw [if_pos c,hload];simp [c]
    ·rw [if_neg c];show _=some (if i<xl*esz then _ else _);rw [if_neg c]
     have:i-xl*esz<vs.length:=by omega
     simp [lst,this]
  ·rw [upd_ne ca,upd_ne ca,upd_ne ca]
   obtain ⟨g',m,z',t',hm,ho,hc⟩:=h.row a ha'
   exact ⟨g',m,z',t',hm,by rw [hst a ha' ca];exact ho,hc⟩
 ·intro a b o ha' hb' hab ho hgo
  by_cases ca:a=s0
  ·subst ca
   have cb:b≠a:=Ne.symm hab
   rw [upd_same,hnew,Option.some.injEq] at ho
   subst ho
   rw [hrow',if_pos (show AM.Obj.grp (.cells false (if g=0 then σ.next else g) (old++vs).length [] (ofList (old++vs)))=(if g=0 then σ.next else g) from rfl),upd_ne cb]
   intro k
   rcases List.mem_cons.mp k with k | k
   ·exact hnext b hb' k
   ·by_cases c:g=0
    ·rw [if_pos c] at k
     have:A b=A a:=by simpa using k
     exact cb (h.inj b a hb' hs this)
    ·rw [if_neg c] at k
     exact h.cut a b _ hs hb' hab hg c (List.mem_of_mem_take k)
  ·rw [upd_ne ca,hst a ha' ca] at ho
   rw [hrow',if_neg (hgrp a o ha' ca ho hgo)]
   by_cases cb:b=s0
   ·subst cb
    rw [upd_same];intro k;have:=h.gw.lt _ _ k;omega
   ·rw [upd_ne cb];exact h.cut a b o ha' hb' hab ho hgo
end
noncomputable section
variable {σ:St} {A:Slot -> Nat} {H H':Heap} {has:Slot -> Prop} {size:Slot -> Nat} {cell:Slot -> Nat -> V}
theorem RepF.store (h:RepF σ has A size cell) {s:Slot} (hs:has s) {off:Nat} {vs:List V} (hk:off+vs.length <= size s) (hf:vs.all V.flat=true) :
  ∃ σ',σ.store (A s) off vs=some σ' /\ RepF σ' has A size (upd cell s (over (cell s) off vs)) /\ σ'.next=σ.next:=by
 obtain ⟨σ',e1,hr,hn,hg,hst,hgrp⟩:=(h.row s hs).store hk hf
 have hwid:Wid σ':=by
  obtain ⟨m,z,t,hm,ho,hc⟩:=h.wid
  exact h.wid.of_get (hst.keep h.gw (h.wid.not_row (h.row s hs)) ho rfl rfl)
 refine ⟨σ',e1,⟨h.gw.store e1,hwid,h.inj,?_,?_⟩,hn⟩
 ·intro t ht
  by_cases c:t=s
  ·subst c
   rw [upd_same];exact hr
  ·have hne:A t≠A s:=fun e=>c (h.inj t s ht hs e)
   rw [upd_ne c]
   obtain ⟨g,m,z,tt,hm,ho,hc⟩:=h.row t ht
   refine ⟨g,m,z,tt,hm,?_,hc⟩
   rw [hst (A t) hne fun o hoo hg0=>h.cut s t o hs ht (Ne.symm c) hoo hg0]
   exact ho
 ·intro a b o ha hb hne ho hg0
  simp only [St.row,hg]
  by_cases c:a=s
  ·subst c
   obtain ⟨q,hq,hgq⟩:∃ q,σ.objs.get (A a)=some q /\ q.grp=o.grp:=by
    obtain ⟨g,m,z,tt,hm,hoq,hc⟩:=h.row a hs
    obtain ⟨o',ho',hgo⟩:=hgrp _ hoq
    rw [ho] at ho';simp only [Option.some.injEq] at ho';subst ho'
    exact ⟨_,hoq,hgo.symm⟩
   have:=h.cut a b q hs hb hne hq (by omega)
   rwa [hgq] at this
  ·have hne':A a≠A s:=fun e=>c (h.inj a s ha hs e)
   rw [hst (A a) hne' fun o hoo hg0=>h.cut s a o hs ha (Ne.symm c) hoo hg0] at ho
   exact h.cut a b o ha hb hne ho hg0
theorem RepF.cell_at (h:RepF σ has A size cell) {s:Slot} (hs:has s) {i:Nat} (hi:i<size s):σ.cell (A s) i=some (cell s i):=(h.row s hs).cell hi
theorem RepF.grow {σ':St} (h:RepF σ has A size cell) (g:Grow σ σ') (w:GW σ'):RepF σ' has A size cell where
 gw:=w
 wid:=by
  obtain ⟨m,z,t,hm,ho,hc⟩:=h.wid
  exact h.wid.of_get (g.old _ (h.gw.is_lt ho))
 inj:=h.inj
 row s hs:=by
  obtain ⟨g',m,z,t,hm,ho,hc⟩:=h.row s hs
  exact ⟨g',m,z,t,hm,by rw [g.old _ (h.is_lt hs)];exact ho,hc⟩
 cut s t o hs ht hne ho hg0:=by
  rw [g.old _ (h.is_lt hs)] at ho
  have:=h.cut s t o hs ht hne ho hg0
  simpa only [St.row,g.grps] using this
theorem append_ok {id n:Nat} {f:Nat -> V} (h:Row σ id n f) {esz bytes k xl:Nat} {vs:List V} (hn:xl*esz <= n) (h1:(xl+k)*bytes <= maxLenBytes) (h2:xl+k <= maxLenBytes) (hf:vs.all V.flat=true) :
  ∃ v σ',appendL σ esz bytes k vs (some (id,0)) xl=some (v,σ'):=by
 have hl:=h.load (off:=0) (k:=xl*esz) (by omega)
 obtain ⟨g,m,z,t,hm,ho,hc⟩:=h
 simp only [St.load,ho] at hl
 unfold appendL
 rw [if_pos ⟨h1,h2,hf⟩]
 simp only [if_true,ho,hl]
 exact ⟨_,_,rfl⟩
end
noncomputable section
variable {σ:St}
theorem pure_mm {b:Bool} {x y:AM.Opd} {tm:T V}:AM.pureOp (.maxmin b [x,y]) tm=AM.maxV b (x.eval tm) [y.eval tm]:=rfl
theorem r_fit {n:Nat} (hn:n <= 1048576):Runs G0 [] 253 [.int .i64 n] σ fun r σ'=>r=.tuple [.int .i64 n,.int .i64 ((n+63) / 64:Nat)] /\ σ'=σ:=by
 refine runs_body g253 rfl ?_
 have m1:AM.maxV false (.int .i64 n) [.int .i64 1048576]=some (.int .i64 n):=by
  simp only [AM.maxV,if_true,Bool.false_eq_true,if_false]
  rw [if_neg (by omega)]
 have m2:AM.maxV true (.int .i64 0) [.int .i64 n]=some (.int .i64 n):=by
  simp only [AM.maxV,if_true]
  by_cases c:(n:Int) > 0
  ·rw [if_pos c]
  ·rw [if_neg c];congr 2;omega
 have e1:IntKind.i64.wrap ((n:Int)+63)=((n+63:Nat):Int):=by rw [wi64_id] <;> omega
 have c2:(64:Int)≠0:=by decide
 have e2:IntKind.i64.wrap (((n+63:Nat):Int).tdiv 64)=(((n+63) / 64:Nat):Int):=i64_div (b:=64) (by omega)
 simp -implicitDefEqProofs only[go_sem,pure_mm,m1,m2,e1,bin_quo,c2,ne_eq,not_false_eq_true,e2]
end
noncomputable section
variable {σ:St}
def cutW (n nw:Nat) (w:Nat -> Nat) (i:Nat):Nat:=if n%64≠0 /\ i=nw-1 then w i%2^(n%64) else w i
theorem r_Scut {lx ly n nw:Nat} {w:Nat -> Nat} (gw:GW σ) (hn:n <= 1048576) (hnw:nw=(n+63) / 64) (hw:∀ i,w i<18446744073709551616)
  (Lx:Lcl σ lx 2 (lst [.int .i64 n,.slice (some (ly,0)) nw 1])) (Ly:Lcl σ ly nw (fun i=>.int .u64 (w i))) :
  Runs G0 [] 254 [.ptr (some (lx,0))] σ fun r σ'=>r=.tuple [] /\ GW σ' /\ Put ly σ σ' /\ Lcl σ' ly nw (fun i=>.int .u64 (cutW n nw w i)):=by
 refine runs_body g254 rfl ?_
 have m0:=Lx.cell (i:=0) (by omega)
 rw [show lst [V.int .i64 n,.slice (some (ly,0)) nw 1] 0=.int .i64 n from rfl] at m0
 have m1:=Lx.cell (i:=1) (by omega)
 rw [show lst [V.int .i64 n,.slice (some (ly,0)) nw 1] 1=.slice (some (ly,0)) nw 1 from rfl] at m1
 have c2:(64:Int)≠0:=by decide
 have e1:((n:Int).tmod 64)=((n%64:Nat):Int):=nat_tmod n 64
 obtain ⟨m,hm⟩:∃ m,m=n%64:=⟨_,rfl⟩
 rw [<- hm] at e1
 by_cases c:m=0
 ·have d:((m:Nat):Int)=0:=by omega
  simp -implicitDefEqProofs only[go_sem,m0,bin_rem,c2,ne_eq,not_false_eq_true,e1,d,not_true_eq_false]
  refine ⟨gw,⟨rfl,rfl,fun _ _=>rfl⟩,Ly.congr (Nat.le_refl _) fun i hi=>?_⟩
  simp only [cutW, <- hm,c,ne_eq,not_true_eq_false,false_and,if_false]
 ·have d:¬ ((m:Nat):Int)=0:=by omega
  have hm64:m<64:=by omega
  have hnw1:1 <= nw:=by omega
  have e2:IntKind.i64.wrap ((nw:Int)-1)=((nw-1:Nat):Int):=by rw [wi64_id] <;> omega
  have c3:(0:Int) <= ((nw-1:Nat):Int) /\ ((nw-1:Nat):Int)<(nw:Int):=by omega
  have m2:=Ly.cell (i:=nw-1) (by omega)
  have c4:(0:Int) <= (m:Int):=by omega
  have e3:=u64_one_shl hm64
  have h2m:2^m <= 2^63:=Nat.pow_le_pow_right (by omega) (by omega)
  have h2p:0<2^m:=Nat.pow_pos (by omega)
  have e4:IntKind.u64.wrap (((2^m:Nat):Int)-1)=((2^m-1:Nat):Int):=by rw [wu64_id] <;> omega
  have e5:=u64_and (a:=w (nw-1)) (b:=2^m-1) (hw _) (by omega)
  rw [Nat.and_two_pow_sub_one_eq_mod] at e5
  obtain ⟨σ4,hs4,L4,w4,P4⟩:=Ly.store gw (off:=nw-1) (vs:=[.int .u64 (w (nw-1)%2^m:Nat)]) (by simp;omega) rfl
  simp -implicitDefEqProofs only[go_sem,Bool.and_false,Bool.not_false,Bool.true_or,Bool.and_self,m0,m1,bin_rem,c2,ne_eq,not_false_eq_true,e1,d,e2,c3,and_self,Int.toNat_natCast,Nat.mul_one,Nat.zero_add,m2,bin_shl,c4,e3,e4,e5,vcells_int,List.length_cons,List.length_nil,hs4]
  refine ⟨w4,P4,L4.congr (Nat.le_refl _) fun i hi=>?_⟩
  simp only [over,cutW, <- hm,List.length_cons,List.length_nil,Nat.zero_add]
  by_cases ci:i=nw-1
  ·subst ci
   rw [if_pos (by omega),if_pos ⟨c,rfl⟩];simp
  ·rw [if_neg (by omega),if_neg (fun k=>ci k.2)]
end
noncomputable section
variable {σ:St}
theorem r_Of0 {n:Nat} (gw:GW σ) (hn:n <= 1048576) {Q:V -> St -> Prop}
  (h:∀ s nw,nw=(n+63) / 64 -> GW s -> Grow σ s -> s.next=σ.next+2 -> Lcl s σ.next nw (fun _=>.int .u64 0) -> Lcl s (σ.next+1) 2 (lst [.int .i64 n,.slice (some (σ.next,0)) nw 1]) -> Q (.ptr (some (σ.next+1,0))) s) :
  Runs G0 [] 210 [.slice none 0 0,.int .i64 n] σ Q:=by
 refine runs_body g210 rfl ?_
 obtain ⟨v,σ1,⟨hv,hs⟩,hr1⟩:=r_fit (σ:=σ) hn
 subst hv hs
 obtain ⟨nw,hnw⟩:∃ nw,nw=(n+63) / 64:=⟨_,rfl⟩
 rw [<- hnw] at hr1
 simp -implicitDefEqProofs only[go_sem]
 refine runs_ret hr1 ?_
 have c1:nw*8 <= maxLenBytes:=by unfold maxLenBytes;omega
 have c0:(0:Int) <= (nw:Int) /\ (nw:Int)<9223372036854775808:=by omega
 have c0':(nw:Int) <= (nw:Int):=by omega
 have g2:=Grow.new σ1 (.cells false 0 nw [.int .u64 0] .nil)
 have w2:=gw.new (.cells false 0 nw [.int .u64 0] .nil) rfl
 have L2:=Lcl.of_new σ1 [.int .u64 0] nw (.inl (by simp))
 have e0:fillP [V.int .i64 0,.slice none 0 0] [(0,1,.int .i64 (n:Int)),(1,1,.slice (some (σ1.next,0)) nw 1)]=some [V.int .i64 n,.slice (some (σ1.next,0)) nw 1]:=rfl
 obtain ⟨ly,hly⟩:∃ ly,ly=σ1.next:=⟨_,rfl⟩
 simp -implicitDefEqProofs only[go_sem,c0,c0',c1,and_self,Int.toNat_natCast,Nat.mul_one,evalParts,e0,vcells_agg,List.length_cons,List.length_nil]
 rw [<- hly] at L2 ⊢
 have n2:(σ1.new (.cells false 0 nw [.int .u64 0] .nil)).next=ly+1:=by rw [hly];rfl
 generalize σ1.new (.cells false 0 nw _ .nil)=σ2 at g2 w2 L2 n2 ⊢
 have g3:Grow σ2 (σ2.newCells [.int .i64 n,.slice (some (ly,0)) nw 1]):=Grow.new _ _
 have w3:GW (σ2.newCells [.int .i64 n,.slice (some (ly,0)) nw 1]):=w2.new _ rfl
 have L3:=Lcl.of_cells σ2 [.int .i64 n,.slice (some (ly,0)) nw 1]
 have n3:(σ2.newCells [.int .i64 n,.slice (some (ly,0)) nw 1]).next=ly+2:=by show σ2.next+1=_;rw [n2]
 rw [n2] at L3 ⊢
 have L2':=L2.grow w2 g3
 generalize σ2.newCells _=σ3 at g3 w3 L3 L2' n3 ⊢
 have L3':Lcl σ3 (ly+1) 2 (lst [.int .i64 n,.slice (some (ly,0)) nw 1]):=L3
 have m1:=L3'.cell (i:=1) (by omega)
 rw [show lst [V.int .i64 n,.slice (some (ly,0)) nw 1] 1=.slice (some (ly,0)) nw 1 from rfl] at m1
 have Lw:Lcl σ3 ly nw (fun i=>.int .u64 ((fun _:Nat=>(0:Nat)) i:Nat)):=L2'.congr (Nat.le_refl _) fun i hi=>by simp [Nat.mod_one]
 simp -implicitDefEqProofs only[go_sem,m1,copyV_none]
 obtain ⟨v,σ4,⟨hv,w4,P4,L4⟩,hr4⟩:=r_Scut (w:=fun _=>0) w3 hn hnw (fun _=>by omega) L3' Lw
 subst hv
 refine runs_ret hr4 ?_
 simp -implicitDefEqProofs only[go_sem]
 have g13:=g2.trans g3
 have hn4:σ4.next=σ1.next+2:=by rw [P4.next,n3,hly]
 rw [hly] at *
 refine h σ4 nw hnw w4 ⟨by omega,P4.grps.trans g13.grps,fun a ha=>(P4.old a (by omega)).trans (g13.old a ha)⟩ hn4 ?_ (L3'.put P4 (by omega))
 exact L4.congr (Nat.le_refl _) fun i hi=>by simp [cutW]
end
noncomputable section
variable {σ:St}
theorem copy_in {ly io nw nwo:Nat} {w:Nat -> Nat} (gw:GW σ) (Ly:Lcl σ ly nw (fun _=>.int .u64 0)) (Ro:Row σ io nwo (fun i=>.int .u64 (w i))) :
  ∃ σ',copyV σ 1 (.slice (some (ly,0)) nw 1) (.slice (some (io,0)) nwo 1)=some (.int .i64 (min nwo nw:Nat),σ') /\ GW σ' /\ Put ly σ σ' /\ Lcl σ' ly nw (fun i=>.int .u64 ((if i<nwo then w i else 0:Nat):Int)):=by
 obtain ⟨m,hm⟩:∃ m,min nwo nw=m:=⟨_,rfl⟩
 rcases Nat.eq_zero_or_pos m with c | c
 ·refine ⟨σ,by simp [copyV,hm,c],gw,Put.refl _ _,Ly.congr (Nat.le_refl _) fun i hi=>?_⟩
  rw [if_neg (by omega)];rfl
 ·have hl:=Ro.load (off:=0) (k:=m) (by omega)
  have hall:((List.range m).map fun j=>V.int .u64 (w (0+j))).all V.flat=true:=by
   rw [List.all_eq_true];intro v hv
   obtain ⟨j,_,rfl⟩:=List.mem_map.mp hv;rfl
  obtain ⟨σ',hs,L',w',P'⟩:=Ly.store gw (off:=0) (vs:=(List.range m).map fun j=>V.int .u64 (w (0+j))) (by simp;omega) hall
  refine ⟨σ',?_,w',P',L'.congr (Nat.le_refl _) fun i hi=>?_⟩
  ·exact copyV_run (σ:=σ) (σ':=σ') (esz:=1) (ix:=ly) (ox:=0) (iy:=io) (oy:=0) (xl:=nw) (yl:=nwo) (xe:=1) (ye:=1) (vs:=(List.range m).map fun j=>V.int .u64 (w (0+j))) (by rw [hm];omega) (by rw [hm,Nat.mul_one];exact hl) hs
  ·simp only [over,Nat.zero_le,true_and,List.length_map,List.length_range,Nat.zero_add,Nat.sub_zero]
   by_cases ci:i<m
   ·rw [if_pos ci,if_pos (by omega)];simp [ci]
   ·rw [if_neg ci,if_neg (by omega)];rfl
end
noncomputable section
variable {σ:St}
theorem r_Of {n nwo io:Nat} {w:Nat -> Nat} (gw:GW σ) (hn:n <= 1048576) (Ro:Row σ io nwo (fun i=>.int .u64 (w i))) (hio:io<σ.next) (hw:∀ i,w i<18446744073709551616) {Q:V -> St -> Prop}
  (h:∀ s nw,nw=(n+63) / 64 -> GW s -> Grow σ s -> s.next=σ.next+2 -> Lcl s σ.next nw (fun i=>.int .u64 (cutW n nw (fun i=>if i<nwo then w i else 0) i)) -> Lcl s (σ.next+1) 2 (lst [.int .i64 n,.slice (some (σ.next,0)) nw 1]) -> Q (.ptr (some (σ.next+1,0))) s) :
  Runs G0 [] 210 [.slice (some (io,0)) nwo 1,.int .i64 n] σ Q:=by
 refine runs_body g210 rfl ?_
 obtain ⟨v,σ1,⟨hv,hs⟩,hr1⟩:=r_fit (σ:=σ) hn
 subst hv hs
 obtain ⟨nw,hnw⟩:∃ nw,nw=(n+63) / 64:=⟨_,rfl⟩
 rw [<- hnw] at hr1
 simp -implicitDefEqProofs only[go_sem]
 refine runs_ret hr1 ?_
 have c1:nw*8 <= maxLenBytes:=by unfold maxLenBytes;omega
 have c0:(0:Int) <= (nw:Int) /\ (nw:Int)<9223372036854775808:=by omega
 have c0':(nw:Int) <= (nw:Int):=by omega
 have g2:=Grow.new σ1 (.cells false 0 nw [.int .u64 0] .nil)
 have w2:=gw.new (.cells false 0 nw [.int .u64 0] .nil) rfl
 have L2:=Lcl.of_new σ1 [.int .u64 0] nw (.inl (by simp))
 have e0:fillP [V.int .i64 0,.slice none 0 0] [(0,1,.int .i64 (n:Int)),(1,1,.slice (some (σ1.next,0)) nw 1)]=some [V.int .i64 n,.slice (some (σ1.next,0)) nw 1]:=rfl
 obtain ⟨ly,hly⟩:∃ ly,ly=σ1.next:=⟨_,rfl⟩
 simp -implicitDefEqProofs only[go_sem,c0,c0',c1,and_self,Int.toNat_natCast,Nat.mul_one,evalParts,e0,vcells_agg,List.length_cons,List.length_nil]
 rw [<- hly] at L2 ⊢
 have n2:(σ1.new (.cells false 0 nw [.int .u64 0] .nil)).next=ly+1:=by rw [hly];rfl
 generalize σ1.new (.cells false 0 nw _ .nil)=σ2 at g2 w2 L2 n2 ⊢
 have g3:Grow σ2 (σ2.newCells [.int .i64 n,.slice (some (ly,0)) nw 1]):=Grow.new _ _
 have w3:GW (σ2.newCells [.int .i64 n,.slice (some (ly,0)) nw 1]):=w2.new _ rfl
 have L3:=Lcl.of_cells σ2 [.int .i64 n,.slice (some (ly,0)) nw 1]
 have n3:(σ2.newCells [.int .i64 n,.slice (some (ly,0)) nw 1]).next=ly+2:=by show σ2.next+1=_;rw [n2]
 rw [n2] at L3 ⊢
 have L2':=L2.grow w2 g3
 generalize σ2.newCells _=σ3 at g3 w3 L3 L2' n3 ⊢
 have L3':Lcl σ3 (ly+1) 2 (lst [.int .i64 n,.slice (some (ly,0)) nw 1]):=L3
 have m1:=L3'.cell (i:=1) (by omega)
 rw [show lst [V.int .i64 n,.slice (some (ly,0)) nw 1] 1=.slice (some (ly,0)) nw 1 from rfl] at m1
 have Lw:Lcl σ3 ly nw (fun _=>.int .u64 0):=L2'.congr (Nat.le_refl _) fun i hi=>by simp [Nat.mod_one]
 have g13:=g2.trans g3
 obtain ⟨σc,hcp,wc,Pc,Lc⟩:=copy_in w3 Lw (g13.row gw Ro)
 have L3c:=L3'.put Pc (by omega)
 simp -implicitDefEqProofs only[go_sem,m1,hcp]
 obtain ⟨v,σ4,⟨hv,w4,P4',L4⟩,hr4⟩:=r_Scut (w:=fun i=>if i<nwo then w i else 0) wc hn hnw (fun i=>by by_cases c:i<nwo <;> simp [c,hw]) L3c Lc
 have P4:=Pc.trans P4'
 subst hv
 refine runs_ret hr4 ?_
 simp -implicitDefEqProofs only[go_sem]
 have hn4:σ4.next=σ1.next+2:=by rw [P4.next,n3,hly]
 rw [hly] at *
 refine h σ4 nw hnw w4 ⟨by omega,P4.grps.trans g13.grps,fun a ha=>(P4.old a (by omega)).trans (g13.old a ha)⟩ hn4 ?_ (L3'.put P4 (by omega))
 exact L4
end
noncomputable section
variable {σ:St} {A:Slot -> Nat} {has:Slot -> Prop} {size:Slot -> Nat} {cell:Slot -> Nat -> V}
theorem RepF.move {σ':St} (h0:RepF σ has A size cell) (g:Grow σ σ') (w:GW σ') {s0:Slot} {b n:Nat} {f:Nat -> V} (L:Lcl σ' b n f) (hb:σ.next <= b) :
  RepF σ' has (upd A s0 b) (upd size s0 n) (upd cell s0 f):=by
 have h:=h0.grow g w
 have hlt:∀ s,has s -> A s≠b:=fun s a=>by have:=h0.is_lt a;omega
 refine ⟨w,h.wid,?_,?_,?_⟩
 ·intro s t hs ht e
  by_cases cs:s=s0
  ·by_cases ct:t=s0
   ·rw [cs,ct]
   ·rw [cs,upd_same,upd_ne ct] at e;exact absurd e.symm (hlt t ht)
  ·by_cases ct:t=s0
   ·rw [ct,upd_same,upd_ne cs] at e;exact absurd e (hlt s hs)
   ·rw [upd_ne cs,upd_ne ct] at e;exact h.inj s t hs ht e
 ·intro s hs
  by_cases cs:s=s0
  ·subst cs;rw [upd_same,upd_same,upd_same];exact L.row
  ·rw [upd_ne cs,upd_ne cs,upd_ne cs];exact h.row s hs
 ·intro s t o hs ht hst ho hg
  by_cases cs:s=s0
  ·subst cs
   rw [upd_same] at ho
   obtain ⟨m,z,tt,hm,hob,hc⟩:=L
   rw [hob,Option.some.injEq] at ho;subst ho
   exact absurd rfl hg
  ·rw [upd_ne cs] at ho
   by_cases ct:t=s0
   ·subst ct
    rw [upd_same];intro k
    have k':b∈σ.row o.grp:=by simpa only [St.row,g.grps] using k
    have:=h0.gw.lt _ _ k';omega
   ·rw [upd_ne ct];exact h.cut s t o hs ht hst ho hg
end
noncomputable section
variable {σ:St} {A:Slot -> Nat} {has:Slot -> Prop} {size:Slot -> Nat} {cell:Slot -> Nat -> V}
theorem r_Resize {k n0 n nwo:Nat} {w:Nat -> Nat} (h:RepF σ has A size cell) (hs:has (.set k)) (hwd:has (.words k)) (h2:size (.set k)=2) (hn:n <= 1048576)
  (hc:cell (.set k) 1=.slice (some (A (.words k),0)) nwo 1) (hsz:size (.words k)=nwo) (hcw:cell (.words k)=fun i=>.int .u64 (w i)) (hw:∀ i,w i<18446744073709551616) :
  Runs G0 [] 264 [.ptr (some (A (.set k),0)),.int .i64 n] σ fun r σ'=>r=.tuple [] /\ σ.next <= σ'.next ∧
   RepF σ' has (upd A (.words k) σ.next) (upd size (.words k) ((n+63) / 64))
    (upd (upd cell (.words k) fun i=>.int .u64 (cutW n ((n+63) / 64) (fun i=>if i<nwo then w i else 0) i)) (.set k) (over (cell (.set k)) 0 [.int .i64 n,.slice (some (σ.next,0)) ((n+63) / 64) 1])):=by
 refine runs_body g264 rfl ?_
 have m1:=h.cell_at hs (i:=1) (by omega)
 rw [hc] at m1
 have Ro:=h.row _ hwd
 rw [hsz,hcw] at Ro
 have hio:=h.is_lt hwd
 have hof:=r_Of (Q:=fun v s=>v=.ptr (some (σ.next+1,0)) /\ GW s /\ Grow σ s /\ Lcl s σ.next ((n+63) / 64) (fun i=>.int .u64 (cutW n ((n+63) / 64) (fun i=>if i<nwo then w i else 0) i)) /\ Lcl s (σ.next+1) 2 (lst [.int .i64 n,.slice (some (σ.next,0)) ((n+63) / 64) 1])) h.gw hn Ro hio hw
  (fun s nw e a b c d1 d2=>by subst e;exact ⟨rfl,a,b,d1,d2⟩)
 obtain ⟨v,σ1,⟨hv,w1,g1,L1,L2⟩,hr1⟩:=hof
 subst hv
 simp -implicitDefEqProofs only[go_sem,m1]
 refine runs_ret hr1 ?_
 have hl:=L2.load (off:=0) (k:=2) (by omega)
 rw [show ((List.range 2).map fun j=>lst [V.int .i64 n,.slice (some (σ.next,0)) ((n+63) / 64) 1] (0+j))=[V.int .i64 n,.slice (some (σ.next,0)) ((n+63) / 64) 1] from rfl] at hl
 have R1:=h.move (s0:=.words k) g1 w1 L1 (Nat.le_refl _)
 have hne:Slot.set k≠Slot.words k:=by simp
 obtain ⟨σ2,hs2,R2,hn2⟩:=R1.store (s:=.set k) hs (off:=0) (vs:=[.int .i64 n,.slice (some (σ.next,0)) ((n+63) / 64) 1]) (by rw [upd_ne hne,h2];simp) rfl
 rw [upd_ne hne] at hs2
 rw [upd_ne hne] at R2
 simp -implicitDefEqProofs only[go_sem,hl,vcells_agg,List.length_cons,List.length_nil,hs2]
 exact ⟨by rw [hn2];exact g1.next,R2⟩
end
end Go.Proofs.YtlgmpheammbacaaGreatDoor
