import Derived.Test.YtlgmpheammbacaaGreatDoorKai
set_option maxRecDepth 1000000
namespace Go.Proofs.YtlgmpheammbacaaGreatDoor
open AM Go
noncomputable section
set_option linter.unusedVariables false
set_option linter.unusedSimpArgs false
attribute [local irreducible] T.get T.set
variable {σ : St} {A : Slot -> Nat} {H H' : Heap} {fl pl fc : Nat -> List Nat} {hole hole' : Nat -> Prop}
theorem Inv.hole_lt (h : Inv H fl pl fc hole) (e : ∀ x, x < H.np -> (hole x ↔ hole' x)) : Inv H fl pl fc hole' where
 ok := h.ok
 pg x hx hn := by
  obtain ⟨k, fam, q⟩ := h.pg x hx (fun c => hn ((e x hx).1 c))
  refine ⟨k, fam, q.transfer rfl fun y hy => ⟨rfl, rfl, fun f => (q.all y hy).1 ((e y (blk_lt q.le hx hy)).2 f)⟩⟩
 fmem k hk x := by
  rw [h.fmem k hk x]
  constructor
  ·rintro ⟨a, b, d⟩; exact ⟨a, fun f => b ((e x a).2 f), d⟩
  ·rintro ⟨a, b, d⟩; exact ⟨a, fun f => b ((e x a).1 f), d⟩
 fnd := h.fnd
 flk := h.flk
 bits := h.bits
 sl x hx hn := h.sl x hx (fun c => hn ((e x hx).1 c))
 pmem c hc x := by
  rw [h.pmem c hc x]
  constructor
  ·rintro ⟨a, b, d⟩; exact ⟨a, fun f => b ((e x a).2 f), d⟩
  ·rintro ⟨a, b, d⟩; exact ⟨a, fun f => b ((e x a).1 f), d⟩
 pnd := h.pnd
 plk := h.plk
theorem rsz_np (H : Heap) : H.rsz * H.regs = 4096 * H.np := by
 have := fin_np H
 unfold Heap.fin at this
 omega
theorem newW_bit {N k nwo i : Nat} {w : Nat -> Nat} (hi : i < 64 * ((N / 2 ^ (k + 1) + 63) / 64)) : (newW N k nwo w (i / 64)).testBit (i % 64) = (decide (i < N / 2 ^ (k + 1)) && (decide (i < 64 * nwo) && (w (i / 64)).testBit (i % 64))) := by
 have hw : (if i / 64 < nwo then w (i / 64) else 0).testBit (i % 64) = (decide (i < 64 * nwo) && (w (i / 64)).testBit (i % 64)) := by
  by_cases c : i / 64 < nwo
  ·rw [if_pos c, decide_eq_true (show i < 64 * nwo by omega), Bool.true_and]
  ·rw [if_neg c, decide_eq_false (show ¬ i < 64 * nwo by omega), Bool.false_and, Nat.zero_testBit]
 unfold newW cutW
 generalize N / 2 ^ (k + 1) = n at hi ⊢
 by_cases c : n % 64 ≠ 0 /\ i / 64 = (n + 63) / 64 - 1
 ·rw [if_pos c, Nat.testBit_mod_two_pow, hw]
  have : (i % 64 < n % 64) ↔ i < n := by omega
  rw [decide_eq_decide.2 this]
 ·rw [if_neg c, hw]
  have : i < n := by omega
  rw [decide_eq_true this, Bool.true_and]
theorem Inv.more (h : Inv H fl pl fc (fun _ => False)) (hlt : H.regs < H.limit) : Inv H.more fl pl fc (fun x => H.np <= x) := by
  have hmn := more_np H
  have hpos := pow_pos' H.order
  have pgE : ∀ x, x < H.np -> H.more.page x = H.page x := fun x hx => if_pos hx
  have memE : ∀ x, x < H.np -> ∀ i, i < 4096 -> H.more.mem (4096 * x + i) = H.mem (4096 * x + i) := fun x hx i hi => if_pos (by rw [rsz_np]; omega)
  exact {
    ok := ok_more h.ok hlt
    pg := by
      intro x hx hn
      have hx0 : x < H.np := by omega
      obtain ⟨k, fam, q⟩ := h.pg x hx0 (fun e => e)
      refine ⟨k, fam, q.transfer rfl fun y hy => ?_⟩
      have hy0 := blk_lt q.le hx0 hy
      rw [pgE y hy0]; exact ⟨rfl, rfl, by omega⟩
    fmem := by
      intro k hk x
      rw [h.fmem k hk x, hmn]
      constructor
      · rintro ⟨a, b, d⟩; rw [pgE x a]; exact ⟨by omega, by omega, d⟩
      · rintro ⟨a, b, d⟩
        have hx : x < H.np := by omega
        rw [pgE x hx] at d
        exact ⟨hx, fun e => e, d⟩
    fnd := h.fnd
    flk := fun k hk => FL.other (h.flk k hk) rfl rfl fun x hx => memE x ((h.fmem k hk x).1 hx).1
    bits := by
      intro k hk i hi
      have hk' : k < H.order := hk
      have hN : (H.regs + 1) * 2 ^ H.order = H.np + 2 ^ H.order := hmn
      have hi' : i < 64 * (((H.regs + 1) * 2 ^ H.order / 2 ^ (k + 1) + 63) / 64) := hi
      have e : H.more.pbit k i = (decide (i < (H.regs + 1) * 2 ^ H.order / 2 ^ (k + 1)) && (decide (i < 64 * H.nw k) && H.pbit k i)) := by
        rw [pbit_eq, pbit_eq]
        exact newW_bit hi'
      rw [e, hN]
      have hp := pow_pos' k
      obtain ⟨m, hm⟩ := np_dvd H (k := k + 1) hk'
      have hpp := pow_pos' (k + 1)
      have hnp : H.npair k = m := by unfold Heap.npair; rw [hm, Nat.mul_div_cancel_left _ hpp]
      have e1 : 2 * i * 2 ^ k = 2 ^ (k + 1) * i := by rw [Nat.pow_succ, Nat.mul_comm 2 i, Nat.mul_assoc, Nat.mul_comm, Nat.mul_comm 2]
      have e2 : (2 * i + 1) * 2 ^ k = 2 ^ (k + 1) * i + 2 ^ k := by rw [Nat.add_mul, e1, Nat.one_mul]
      by_cases c : i < m
      · have c1 : i < (H.np + 2 ^ H.order) / 2 ^ (k + 1) := by
          refine (Nat.le_div_iff_mul_le hpp).2 ?_
          have : 2 ^ (k + 1) * (i + 1) <= 2 ^ (k + 1) * m := Nat.mul_le_mul_left _ c
          rw [<- hm, Nat.mul_comm] at this
          exact Nat.le_trans this (Nat.le_add_right _ _)
        have c2 : i < 64 * H.nw k := by unfold Heap.nw; rw [hnp]; omega
        rw [decide_eq_true c1, decide_eq_true c2, Bool.true_and, Bool.true_and]
        exact h.bits k hk' i c2
      · have h1 : H.np <= 2 ^ (k + 1) * i := by rw [hm]; exact Nat.mul_le_mul_left _ (by omega)
        have n1 : 2 * i * 2 ^ k ∉ fl k := fun hm' => by
          have := ((h.fmem k (by omega) _).1 hm').1
          rw [e1] at this; omega
        have n2 : (2 * i + 1) * 2 ^ k ∉ fl k := fun hm' => by
          have := ((h.fmem k (by omega) _).1 hm').1
          rw [e2] at this; omega
        rw [decide_eq_false n1, decide_eq_false n2]
        refine ⟨?_, fun e => n1 e.1⟩
        by_cases c2 : i < 64 * H.nw k
        · have := (h.bits k hk' i c2).1
          rw [decide_eq_false n1, decide_eq_false n2] at this
          rw [this]; simp
        · rw [decide_eq_false c2]; simp
    sl := by
      intro x hx hn hk
      have hx0 : x < H.np := by omega
      rw [pgE x hx0] at hk
      obtain ⟨c, s⟩ := h.sl x hx0 (fun e => e) hk
      exact ⟨c, s.transfer rfl (by rw [pgE x hx0]; exact Core.refl _) (memE x hx0)⟩
    pmem := by
      intro c hc x
      rw [h.pmem c hc x, hmn]
      constructor
      · rintro ⟨a, b, d⟩; rw [pgE x a]; exact ⟨by omega, by omega, d⟩
      · rintro ⟨a, b, d⟩
        have hx : x < H.np := by omega
        rw [pgE x hx] at d
        exact ⟨hx, fun e => e, d⟩
    pnd := h.pnd
    plk := fun c hc => (h.plk c hc).congr rfl fun x hx => by
      rw [pgE x ((h.pmem c hc x).1 hx).1]; exact ⟨rfl, rfl⟩ }
def _root_.AM.Heap.fed (H : Heap) : Heap := H.more.enter H.np H.order
theorem run_run (H : Heap) (p k : Nat) (a b : Int) : (H.run p k a).run p k b = H.run p k b := by
 have e : ((H.run p k a).run p k b).page = (H.run p k b).page := by
  funext x
  rw [run_page, run_page, run_page]
  by_cases c : p <= x /\ x < p + 2 ^ k
  ·rw [if_pos c, if_pos c]
  ·rw [if_neg c, if_neg c, if_neg c]
 show { H with page := ((H.run p k a).run p k b).page } = { H with page := (H.run p k b).page }
 rw [e]
theorem run_enter (H : Heap) (p k : Nat) (a : Int) : (H.run p k a).enter p k = H.enter p k := by
 show (((H.run p k a).run p k 0).pushed k (H.addr p)) = (H.run p k 0).pushed k (H.addr p)
 rw [run_run]
structure Grew (H H' : Heap) : Prop where
 base : H'.base = H.base
 order : H'.order = H.order
 limit : H'.limit = H.limit
 regs : H'.regs = H.regs + 1
 part : H'.part = H.part
 lock : H'.lock = H.lock
 held : ∀ x, x < H.np -> ¬ IsFr H x -> H'.page x = H.page x /\ ∀ i, i < 4096 -> H'.mem (4096 * x + i) = H.mem (4096 * x + i)
 free : ∀ x, x < H.np -> IsFr H x -> IsFr H' x
 new : ∀ x, H.np <= x -> x < H.np + 2 ^ H.order -> IsFr H' x
theorem Grew.np (h : Grew H H') : H'.np = H.np + 2 ^ H.order := by
 unfold Heap.np; rw [h.regs, h.order, Nat.add_mul, Nat.one_mul]
theorem Grew.addr (h : Grew H H') (x : Nat) : H'.addr x = H.addr x := by unfold Heap.addr; rw [h.base]
theorem Inv.fed (h : Inv H fl pl fc (fun _ => False)) (hlt : H.regs < H.limit) :
  Inv H.fed (fun j => if j = H.order then H.np :: fl H.order else fl j) pl fc (fun _ => False) /\ Grew H H.fed := by
 have hm := h.more hlt
 have hmn := more_np H
 have hpos := pow_pos' H.order
 have al : H.np % 2 ^ H.order = 0 := by unfold Heap.np; exact Nat.mul_mod_left _ _
 have ht : H.more.turned H.np H.order = H.more := by unfold Heap.turned; exact if_pos rfl
 have hb : ∀ x, x / 2 ^ H.order = H.np / 2 ^ H.order -> H.np <= x := fun x hx => ((blk_iff al).1 hx).1
 have he := hm.entered (p := H.np) (k := H.order) (Nat.le_refl _) al (by rw [hmn]; exact Nat.le_refl _) hb (fun e => absurd e (Nat.lt_irrefl _))
 have hk := hm.keep_entered (p := H.np) (k := H.order) (Nat.le_refl _) al hb
 have hpg := entered_page H.more (p := H.np) (k := H.order) al
 rw [ht] at he hk hpg
 have sm := hk.same
 refine ⟨?_, ⟨sm.base, sm.order, sm.limit, sm.regs, hk.part, hk.lock, fun x hx hf => ?_, fun x hx hf => ?_, fun x h1 h2 => ?_⟩⟩
 ·refine he.hole_lt fun x hx => ?_
  rw [sm.np, hmn] at hx
  rw [blk_iff al]
  constructor
  ·rintro ⟨a, b⟩; exact (b ⟨a, hx⟩).elim
  ·intro e; exact e.elim
 ·have e1 : H.more.page x = H.page x := if_pos hx
  obtain ⟨a, b⟩ := hk.held x (by omega) (by omega) (by unfold IsFr at hf ⊢; rw [e1]; exact hf)
  exact ⟨a.trans e1, fun i hi => (b i hi).trans (if_pos (by rw [rsz_np]; omega))⟩
 ·have e1 : H.more.page x = H.page x := if_pos hx
  exact hk.free x (by omega) (by omega) (by unfold IsFr at hf ⊢; rw [e1]; exact hf)
 ·unfold IsFr
  have e := hpg x
  rw [if_pos ((blk_iff al).2 ⟨h1, h2⟩)] at e
  show ((H.more.enter H.np H.order).page x).kind = 0 \/ ((H.more.enter H.np H.order).page x).kind = 1
  rw [e]
  by_cases d : x = H.np
  ·rw [if_pos d]; exact .inl rfl
  ·rw [if_neg d]; exact .inr rfl
def _root_.AM.Heap.fst (H : Heap) : Nat -> Nat -> Option Nat
 |_, 0 => none
 |k, n + 1 => if H.head k ≠ 0 then some k else fst H (k + 1) n
theorem fst_none {H : Heap} : ∀ {n k : Nat}, H.fst k n = none -> ∀ j, k <= j -> j < k + n -> H.head j = 0
 | 0, k, h, j, h1, h2 => by omega
 |n + 1, k, h, j, h1, h2 => by
  rw [Heap.fst] at h
  by_cases c : H.head k ≠ 0
  ·rw [if_pos c] at h; cases h
  ·rw [if_neg c] at h
   by_cases e : j = k
   ·subst e; simpa using c
   ·exact fst_none h j (by omega) (by omega)
theorem fst_some {H : Heap} : ∀ {n k j : Nat}, H.fst k n = some j -> k <= j /\ j < k + n /\ H.head j ≠ 0 /\ ∀ i, k <= i -> i < j -> H.head i = 0
 | 0, k, j, h => by cases h
 |n + 1, k, j, h => by
  rw [Heap.fst] at h
  by_cases c : H.head k ≠ 0
  ·rw [if_pos c, Option.some.injEq] at h
   subst h
   exact ⟨Nat.le_refl _, by omega, c, fun i h1 h2 => by omega⟩
  ·rw [if_neg c] at h
   obtain ⟨a, b, d, e⟩ := fst_some h
   refine ⟨by omega, by omega, d, fun i h1 h2 => ?_⟩
   by_cases e2 : i = k
   ·subst e2; simpa using c
   ·exact e i (by omega) h2
def _root_.AM.Heap.takeF (H : Heap) (k : Nat) : Option (Heap × Nat) :=
 (H.fst k (H.order + 1 - k)).map fun j => (H.took k j ((H.head j - H.base) / 4096) (H.w64 (H.head j)), (H.head j - H.base) / 4096)
structure Took (H H' : Heap) (k p : Nat) : Prop where
 same : H'.Same H
 part : H'.part = H.part
 lock : H'.lock = H.lock
 al : p % 2 ^ k = 0
 le : p + 2 ^ k <= H.np
 was : ∀ x, x / 2 ^ k = p / 2 ^ k -> IsFr H x
 is : ∀ x, x / 2 ^ k = p / 2 ^ k -> H'.page x = if x = p then plainP 2 k else plainP (2 + 1) k
 held : ∀ x, x < H.np -> ¬ IsFr H x -> H'.page x = H.page x /\ ∀ i, i < 4096 -> H'.mem (4096 * x + i) = H.mem (4096 * x + i)
 free : ∀ x, x < H.np -> IsFr H x -> ¬ x / 2 ^ k = p / 2 ^ k -> IsFr H' x
theorem Inv.takeF (h : Inv H fl pl fc (fun _ => False)) {k : Nat} (hk : k <= H.order) {p : Nat} (ht : H.takeF k = some (H', p)) : (∃ fl', Inv H' fl' pl fc (fun _ => False)) /\ Took H H' k p := by
 unfold Heap.takeF at ht
 cases hf : H.fst k (H.order + 1 - k) with
 |none => rw [hf] at ht; cases ht
 |some j =>
  rw [hf] at ht
  simp only [Option.map_some, Option.some.injEq, Prod.mk.injEq] at ht
  obtain ⟨h1, h2, h3, h4⟩ := fst_some hf
  have hfl := h.flk j (by omega)
  cases e0 : fl j with
  |nil => rw [e0] at hfl; exact (h3 hfl.1).elim
  |cons q r =>
   rw [e0] at hfl
   have hh : H.head j = H.addr q := hfl.1
   have hq : (H.head j - H.base) / 4096 = q := by rw [hh]; unfold Heap.addr; omega
   obtain ⟨i1, i2, i3, i4, i5, i6, i7, i8, i9⟩ := h.took h1 (by omega) e0
   have hw : H.w64 (H.head j) = hdE H r 0 := by rw [hh]; exact i9.next
   rw [hq, hw] at ht
   obtain ⟨rfl, rfl⟩ := ht
   have hle : 2 ^ k <= 2 ^ j := Nat.pow_le_pow_right (by omega) h1
   have alk : q % 2 ^ k = 0 := Nat.mod_eq_zero_of_dvd (Nat.dvd_trans (Nat.pow_dvd_pow 2 h1) (Nat.dvd_of_mod_eq_zero i3))
   have sub : ∀ x, x / 2 ^ k = q / 2 ^ k -> x / 2 ^ j = q / 2 ^ j := fun x hx => by rw [blk_iff alk] at hx; rw [blk_iff i3]; omega
   refine ⟨i1, i2.same, i2.part, i2.lock, alk, by omega, fun x hx => i5 x (sub x hx), i7, fun x hx hf => ?_, fun x hx hf hn => ?_⟩
   ·exact i2.held x hx (fun e => hf (i5 x e)) hf
   ·by_cases c : x / 2 ^ j = q / 2 ^ j
    ·exact i6 x c hn
    ·exact i2.free x hx c hf
theorem r_TakeF (hR : HRep σ A H) (h : Inv H fl pl fc (fun _ => False)) {k : Nat} (hk : k <= H.order) :
  Runs G0 [] 248 [.ptr (some (A .buddy, 0)), .int .i64 k] σ fun r s => (H.takeF k = none /\ s = σ /\ r = .tuple [.int .u64 0, .int .i64 2]) \/ ∃ H' p, H.takeF k = some (H', p) /\ HRep s A H' /\ r = .tuple [.int .u64 (H.addr p), .int .i64 0] := by
 cases hf : H.fst k (H.order + 1 - k) with
 |none =>
  refine (r_Take0 hR h.ok hk fun j h1 h2 => fst_none hf j h1 (by omega)).mono ?_
  rintro v s ⟨a, b⟩
  refine .inl ⟨?_, b, a⟩
  unfold Heap.takeF; rw [hf]; rfl
 |some j =>
  obtain ⟨h1, h2, h3, h4⟩ := fst_some hf
  have hfl := h.flk j (by omega)
  cases e0 : fl j with
  |nil => rw [e0] at hfl; exact (h3 hfl.1).elim
  |cons q r =>
   rw [e0] at hfl
   have hh : H.head j = H.addr q := hfl.1
   have hq : (H.head j - H.base) / 4096 = q := by rw [hh]; unfold Heap.addr; omega
   obtain ⟨i1, i2, i3, i4, i5, i6, i7, i8, i9⟩ := h.took h1 (by omega) e0
   have hw : H.w64 (H.head j) = hdE H r 0 := by rw [hh]; exact i9.next
   refine (r_Take hR h.ok (k := k) (j := j) (p := q) (nx := hdE H r 0) h1 (by omega) h4 hh i4 i3 i9 i8).mono ?_
   rintro v s ⟨a, b⟩
   refine .inr ⟨_, _, ?_, a, b⟩
   unfold Heap.takeF
   rw [hf]
   simp only [Option.map_some, hq, hw]
def _root_.AM.Heap.needF (H : Heap) (k : Nat) (deny : Bool) : Heap × Option Nat :=
 match H.takeF k with
 |some x => (x.1, some x.2)
 |none => if deny = true \/ H.regs = H.limit then (H, none) else match H.fed.takeF k with
  |some x => (x.1, some x.2)
  |none => (H.fed, none)
def Stay (A A' : Slot -> Nat) : Prop := ∀ t, (∀ i, t ≠ .reg i) -> t ≠ .parts -> (∀ k, t ≠ .words k) -> t ≠ .pages -> A' t = A t
theorem Stay.refl (A : Slot -> Nat) : Stay A A := fun _ _ _ _ _ => rfl
theorem r_NeedF (hR : HRep σ A H) (h : Inv H fl pl fc (fun _ => False)) {k : Nat} (hk : k <= H.order) (d : Bool) :
  Runs G0 [] 205 [.ptr (some (A .pool, 0)), .int .i64 k, .bool d] σ fun r s => (∃ A', Stay A A' /\ HRep s A' (H.needF k d).1) ∧
   match (H.needF k d).2 with
   |some p => ∃ g, r = .tuple [.int .u64 (H.addr p), .bool g, .int .i64 0]
   |none => r = .tuple [.int .u64 0, .bool false, .int .i64 2] := by
 obtain ⟨v, s1, ht, hr⟩ := r_TakeF hR h hk
 rcases ht with ⟨t1, rfl, rfl⟩ | ⟨H', p, t1, R1, rfl⟩
 ·unfold Heap.needF
  rw [t1]
  simp only
  by_cases c : d = true \/ H.regs = H.limit
  ·rw [if_pos c]
   obtain ⟨v, s2, ⟨rfl, rfl⟩, hr2⟩ := r_CommitE hR h.ok c
   refine (r_NeedE (P := fun s => s = s2) hR (e := 2) (x := 0) (by decide) ⟨_, _, ⟨rfl, rfl⟩, hr⟩ ⟨_, _, ⟨rfl, rfl⟩, hr2⟩).mono ?_
   rintro v s ⟨rfl, rfl⟩
   exact ⟨⟨A, Stay.refl A, hR⟩, rfl⟩
  ·rw [if_neg c]
   have hd : d = false := by cases d; rfl; exact (c (.inl rfl)).elim
   subst hd
   have hlt : H.regs < H.limit := by have := h.ok.regs_le; omega
   obtain ⟨hf, gr⟩ := h.fed hlt
   have hk2 : k <= H.fed.order := by rw [gr.order]; exact hk
   have hsome : ∃ x, H.fed.takeF k = some x := by
    cases hx : H.fed.takeF k with
    |some x => exact ⟨x, rfl⟩
    |none =>
     unfold Heap.takeF at hx
     rw [Option.map_eq_none_iff] at hx
     have := fst_none hx H.order (by omega) (by rw [gr.order]; omega)
     have hfl := hf.flk H.order (by rw [gr.order]; exact Nat.le_refl _)
     rw [if_pos rfl] at hfl
     have h1 : H.fed.head H.order = H.fed.addr H.np := hfl.1
     rw [this] at h1
     exact absurd h1.symm (addr_ne0 (by rw [gr.base]; exact h.ok.base_pos) _)
   obtain ⟨⟨H2, p⟩, hx⟩ := hsome
   rw [hx]
   simp only
   have hP := r_NeedG (k := .int .i64 k) (d := .bool false) (a := (H.addr p : Nat)) (x := (H.fin : Nat)) (m := A .map) (P := fun s => ∃ A', Stay A A' /\ HRep s A' H2) hR ⟨_, _, ⟨rfl, rfl⟩, hr⟩ ?_
   ·refine hP.mono ?_
    rintro v s ⟨a, rfl⟩
    exact ⟨a, ⟨_, rfl⟩⟩
   ·refine (r_Commit hR h.ok hlt).mono ?_
    rintro v s ⟨⟨A1, R1, hA1⟩, rfl⟩
    refine ⟨⟨?_, ?_⟩, rfl⟩
    ·have := R1.cell_at (s := .pool) (.inl trivial) (i := 1) (show 1 < 3 by omega)
     rw [hA1 .pool (by simp) (by simp)] at this
     rw [this, show comCell H A1 .pool 1 = .ptr (some (A1 .map, 0)) from rfl, hA1 .map (by simp) (by simp)]
    ·have hg := r_Grow h.ok hlt R1
     rw [hA1 .map (by simp) (by simp)] at hg
     refine hg.mono ?_
     rintro v s2 ⟨⟨A2, R2, hA2⟩, rfl⟩
     have st : Stay A A2 := fun t a b c d => (hA2 t c d).trans (hA1 t (a _) b)
     have stp := st .pool (by simp) (by simp) (by simp) (by simp)
     have stb := st .buddy (by simp) (by simp) (by simp) (by simp)
     have c1 : s2.cell (A .pool) 2 = some (.ptr (some (A .buddy, 0))) := by
      have := pool_buddy R2
      rw [stp, stb] at this; exact this
     refine ⟨c1, ?_⟩
     have hm := h.more hlt
     have hmn := more_np H
     have okm := ok_run (p := H.np) (k := H.order) (kind := 2) hm.ok
     have al : H.np % 2 ^ H.order = 0 := by unfold Heap.np; exact Nat.mul_mod_left _ _
     have hpos := pow_pos' H.order
     have hnp2 : (H.more.run H.np H.order 2).np = H.np + 2 ^ H.order := hmn
     have htop : (H.more.run H.np H.order 2).np - 2 ^ (H.more.run H.np H.order 2).order = H.np := by
      rw [hnp2]; show H.np + 2 ^ H.order - 2 ^ H.order = H.np; omega
     have hkd := run_kind (H := H.more) (kind := 2) al (x := H.np) rfl
     rw [if_pos al] at hkd
     have hpush : (H.more.run H.np H.order 2).PushOk (H.more.run H.np H.order 2).order := by
      have hfl : FL (H.more.run H.np H.order 2) H.order (fl H.order) := FL.pages (hm.flk H.order (Nat.le_refl _))
      refine hfl.pushOk fun q hq => In_addr okm ?_ (by omega)
      have := ((hm.fmem H.order (Nat.le_refl _) q).1 hq).1
      exact this
     have hfd := r_Feed R2 okm (show 0 < H.regs + 1 by omega) (by rw [htop]; exact hkd.2) (by rw [htop]; exact hkd.1) hpush
     rw [htop, stb] at hfd
     refine hfd.mono ?_
     rintro v s3 ⟨R3, rfl⟩
     have R3' : HRep s3 A2 H.fed := by
      have e : (H.more.run H.np H.order 2).enter H.np (H.more.run H.np H.order 2).order = H.fed := run_enter H.more H.np H.order 2
      rw [<- e]; exact R3
     refine ⟨?_, ?_⟩
     ·have := pool_buddy R3'
      rw [stp, stb] at this; exact this
     ·obtain ⟨v, s4, ht4, hr4⟩ := r_TakeF R3' hf hk2
      rw [stb] at hr4
      rcases ht4 with ⟨t4, _, _⟩ | ⟨H3, p3, t4, R4, hv⟩
      ·rw [hx] at t4; cases t4
      ·rw [hx, Option.some.injEq, Prod.mk.injEq] at t4
       obtain ⟨rfl, rfl⟩ := t4
       rw [gr.addr] at hv
       exact ⟨v, s4, ⟨⟨A2, st, R4⟩, hv⟩, hr4⟩
 ·unfold Heap.needF
  rw [t1]
  simp only
  refine (r_Need (P := fun s => HRep s A H') hR (e := 0) (by decide) ⟨_, _, ⟨R1, rfl⟩, hr⟩).mono ?_
  rintro v s ⟨a, rfl⟩
  exact ⟨⟨A, Stay.refl A, a⟩, ⟨_, rfl⟩⟩
end
end Go.Proofs.YtlgmpheammbacaaGreatDoor
set_option maxRecDepth 1000000
namespace Go.Proofs.YtlgmpheammbacaaGreatDoor
open AM Go
noncomputable section
set_option linter.unusedVariables false
set_option linter.unusedSimpArgs false
attribute [local irreducible] T.get T.set
variable {σ : St} {A : Slot -> Nat} {H H' : Heap} {fl pl fc : Nat -> List Nat} {hole hole' : Nat -> Prop}
def _root_.AM.Heap.nextF (H : Heap) (p c f : Nat) : Int := if H.w64 (H.addr p + f * (16 * 2 ^ c)) = 0 then -1 else (((H.w64 (H.addr p + f * (16 * 2 ^ c)) - H.addr p) / (16 * 2 ^ c) : Nat) : Int)
def _root_.AM.Heap.stakeF (H : Heap) (c : Nat) (deny : Bool) : Heap × Option (Nat × Nat) :=
 if 0 <= H.part c then (H.taken (H.part c).toNat c (H.page (H.part c).toNat).first.toNat (H.nextF (H.part c).toNat c (H.page (H.part c).toNat).first.toNat), some ((H.part c).toNat, (H.page (H.part c).toNat).first.toNat))
 else match (H.needF 0 deny).2 with
  |some p => (((H.needF 0 deny).1.born p c).taken p c 0 1, some (p, 0))
  |none => ((H.needF 0 deny).1, none)
theorem Inv.nextF (h : Inv H fl pl fc hole) {p c f : Nat} {r : List Nat} (hc : c < 8) (hp : p ∈ pl c) (hf : fc p = f :: r) : H.nextF p c f = hdI r (-1) := by
 obtain ⟨h1, h2, h3, h4, h5⟩ := (h.pmem c hc p).1 hp
 have s := h.slab h1 h2 h3 h4
 rw [hf] at s
 have hs := s.seg.1
 have hw := (w8 hc).2.1
 unfold Heap.nextF
 cases r with
 |nil => rw [if_pos hs]; rfl
 |cons q r =>
  have h0 : H.w64 (H.addr p + f * (16 * 2 ^ c)) = H.addr p + q * (16 * 2 ^ c) := hs
  have ha := addr_ne0 h.ok.base_pos p
  rw [h0, if_neg (by omega), Nat.add_sub_cancel_left, Nat.mul_div_cancel _ (by omega)]; rfl
theorem Inv.head_page (h : Inv H fl pl fc (fun _ => False)) {c : Nat} (hc : c < 8) (hp : 0 <= H.part c) : ∃ (p f : Nat) (r : List Nat), H.part c = (p : Int) /\ p ∈ pl c /\ fc p = f :: r /\ (H.page p).first = (f : Int) /\ p < H.np /\ (H.page p).kind = 4 /\ (H.page p).cls = (c : Int) := by
 have hpl := h.plk c hc
 cases hl : pl c with
 |nil => rw [hl] at hpl; have h0 : H.part c = -1 := hpl.1; omega
 |cons p l =>
  rw [hl] at hpl
  have h0 : H.part c = (p : Int) := hpl.1
  have hm : p ∈ pl c := by rw [hl]; simp
  obtain ⟨h1, h2, h3, h4, h5⟩ := (h.pmem c hc p).1 hm
  cases hf : fc p with
  |nil => exact (h5 hf).elim
  |cons f r =>
   have s := h.slab h1 h2 h3 h4
   rw [hf] at s
   exact ⟨p, f, r, h0, by rw [<- hl]; exact hm, hf, s.first, h1, h3, h4⟩
theorem Inv.no_page (h : Inv H fl pl fc hole) {c : Nat} (hc : c < 8) (hp : ¬ 0 <= H.part c) : H.part c = -1 /\ pl c = [] := by
 have hpl := h.plk c hc
 cases hl : pl c with
 |nil => rw [hl] at hpl; exact ⟨hpl.1, rfl⟩
 |cons p l => rw [hl] at hpl; have h0 : H.part c = (p : Int) := hpl.1; omega
inductive Needed (H : Heap) (k : Nat) (deny : Bool) : Heap -> Option Nat -> Prop where
 |old {H' : Heap} {p : Nat} : H.takeF k = some (H', p) -> Took H H' k p -> Needed H k deny H' (some p)
 |grew {H' : Heap} {p : Nat} : H.takeF k = none -> deny = false -> H.regs < H.limit -> Grew H H.fed -> Took H.fed H' k p -> Needed H k deny H' (some p)
 |none : H.takeF k = Option.none -> (deny = true \/ H.regs = H.limit) -> Needed H k deny H Option.none
theorem Inv.needF (h : Inv H fl pl fc (fun _ => False)) {k : Nat} (hk : k <= H.order) (d : Bool) : Needed H k d (H.needF k d).1 (H.needF k d).2 /\ ∃ fl', Inv (H.needF k d).1 fl' pl fc (fun _ => False) := by
 unfold Heap.needF
 cases ht : H.takeF k with
 |some x =>
  obtain ⟨H', p⟩ := x
  obtain ⟨i1, i2⟩ := h.takeF hk ht
  exact ⟨.old ht i2, i1⟩
 |none =>
  simp only
  by_cases c : d = true \/ H.regs = H.limit
  ·rw [if_pos c]; exact ⟨.none ht c, fl, h⟩
  ·rw [if_neg c]
   have hd : d = false := by cases d; rfl; exact (c (.inl rfl)).elim
   have hlt : H.regs < H.limit := by have := h.ok.regs_le; omega
   obtain ⟨hf, gr⟩ := h.fed hlt
   cases hx : H.fed.takeF k with
   |none =>
    unfold Heap.takeF at hx
    rw [Option.map_eq_none_iff] at hx
    have := fst_none hx H.order (by omega) (by rw [gr.order]; omega)
    have hfl := hf.flk H.order (by rw [gr.order]; exact Nat.le_refl _)
    rw [if_pos rfl] at hfl
    have h1 : H.fed.head H.order = H.fed.addr H.np := hfl.1
    rw [this] at h1
    exact absurd h1.symm (addr_ne0 (by rw [gr.base]; exact h.ok.base_pos) _)
   |some x =>
    obtain ⟨H', p⟩ := x
    obtain ⟨i1, i2⟩ := hf.takeF (by rw [gr.order]; exact hk) hx
    exact ⟨.grew ht hd hlt gr i2, i1⟩
theorem Needed.base {k : Nat} {d : Bool} {H' : Heap} {o : Option Nat} (h : Needed H k d H' o) : H'.base = H.base /\ H'.order = H.order /\ H'.limit = H.limit /\ H'.part = H.part /\ H'.lock = H.lock /\ ∀ p, o = some p -> p + 2 ^ k <= H'.np := by
 cases h with
 |old _ t => exact ⟨t.same.base, t.same.order, t.same.limit, t.part, t.lock, fun p e => by cases e; rw [t.same.np]; exact t.le⟩
 |grew _ _ _ g t => exact ⟨t.same.base.trans g.base, t.same.order.trans g.order, t.same.limit.trans g.limit, t.part.trans g.part, t.lock.trans g.lock, fun p e => by cases e; rw [t.same.np]; exact t.le⟩
 |none _ _ => exact ⟨rfl, rfl, rfl, rfl, rfl, fun p e => by cases e⟩
theorem Needed.is {k p : Nat} {d : Bool} {H' : Heap} (h : Needed H k d H' (some p)) : p % 2 ^ k = 0 /\ ∀ x, x / 2 ^ k = p / 2 ^ k -> H'.page x = if x = p then plainP 2 k else plainP (2 + 1) k := by
 cases h with
 |old _ t => exact ⟨t.al, t.is⟩
 |grew _ _ _ g t => exact ⟨t.al, t.is⟩
theorem Needed.page0 {p : Nat} {d : Bool} {H' : Heap} (h : Needed H 0 d H' (some p)) (hi : Inv H' fl pl fc (fun _ => False)) : p < H'.np /\ PgOk H' (fun _ => False) p 0 2 := by
 have h1 := h.base.2.2.2.2.2 p rfl
 have hp : p < H'.np := by have : (2 : Nat) ^ 0 = 1 := rfl; omega
 obtain ⟨k, fam, g⟩ := hi.pg p hp (fun e => e)
 have e := h.is.2 p rfl
 rw [if_pos rfl] at e
 have hk : k = 0 := by
  have h2 := g.order
  rw [e] at h2
  have h3 : (0 : Int) = (k : Int) := h2
  omega
 subst hk
 obtain ⟨rfl, _⟩ := g.two (by rw [e]; rfl)
 exact ⟨hp, g⟩
theorem r_STakeF (hR : HRep σ A H) (h : Inv H fl pl fc (fun _ => False)) {c : Nat} (hc : c < 8) (d : Bool) :
  Runs G0 [] 203 [.ptr (some (A .slab, 0)), .int .i64 c, .bool d] σ fun r s => (∃ A', Stay A A' /\ HRep s A' (H.stakeF c d).1) ∧
   match (H.stakeF c d).2 with
   |some x => ∃ g, r = .tuple [.int .u64 (H.addr x.1 + x.2 * (16 * 2 ^ c) : Nat), .bool g, .int .i64 0]
   |none => r = .tuple [.int .u64 0, .bool false, .int .i64 2] := by
 unfold Heap.stakeF
 by_cases hp : 0 <= H.part c
 ·rw [if_pos hp]
  obtain ⟨p, f, r, h0, hm, hf, hfi, _⟩ := h.head_page hc hp
  have e1 : (H.part c).toNat = p := by omega
  have e2 : (H.page p).first.toNat = f := by omega
  rw [e1, e2, h.nextF hc hm hf]
  refine (r_STake hR h.ok h0 (h.takeOk hc hm hf)).mono ?_
  rintro v s ⟨a, rfl⟩
  exact ⟨⟨A, Stay.refl A, a⟩, ⟨_, rfl⟩⟩
 ·rw [if_neg hp]
  obtain ⟨h0, hl⟩ := h.no_page hc hp
  obtain ⟨hN, fl', hI⟩ := h.needF (Nat.zero_le _) d
  have hrun := r_NeedF hR h (Nat.zero_le H.order) d
  cases ho : (H.needF 0 d).2 with
  |none =>
   rw [ho] at hrun
   simp only at hrun ⊢
   have hrun' : Runs G0 [] 205 [.ptr (some (A .pool, 0)), .int .i64 0, .bool d] σ fun r s => (∃ A', Stay A A' /\ HRep s A' (H.needF 0 d).1) /\ r = .tuple [.int .u64 (0 : Nat), .bool false, .int .i64 2] := hrun
   exact r_STakeE (x := 0) hR h.ok hc h0 (by decide) hrun'
  |some p =>
   rw [ho] at hrun hN
   simp only at hrun ⊢
   obtain ⟨v, s, ⟨⟨A', st, R'⟩, g, rfl⟩, hr⟩ := hrun
   have hb := hN.base
   obtain ⟨hpn, gp⟩ := hN.page0 hI
   have ea : (H.needF 0 d).1.addr p = H.addr p := by unfold Heap.addr; rw [hb.1]
   have hborn := hI.born hpn hc gp hl
   obtain ⟨i1, i2, i3, i4⟩ := hborn
   have w4 := (w8 hc).2.2.2.1
   have hpm : p ∈ (fun j => if j = c then [p] else pl j) c := by simp
   have hfc : (fun x => if x = p then List.range' 0 (256 / 2 ^ c) else fc x) p = 0 :: List.range' 1 (256 / 2 ^ c - 1) := by
    simp only [if_true]
    obtain ⟨m, hm⟩ : ∃ m, 256 / 2 ^ c = m + 1 := ⟨256 / 2 ^ c - 1, by omega⟩
    rw [hm, List.range'_succ]; rfl
   have hto := i1.takeOk hc hpm hfc
   have hh1 : hdI (List.range' 1 (256 / 2 ^ c - 1)) (-1) = 1 := by
    obtain ⟨m, hm⟩ : ∃ m, 256 / 2 ^ c = m + 2 := ⟨256 / 2 ^ c - 2, by omega⟩
    rw [hm, show m + 2 - 1 = m + 1 by omega, List.range'_succ]; rfl
   rw [hh1] at hto
   refine (r_STakeN (A' := A') (H' := (H.needF 0 d).1) (f := 0) (nf := 1) hR hc h0 (st .slab (by simp) (by simp) (by simp) (by simp)) hI.ok hpn (by rw [hb.2.2.2.1]; exact h0) (g := g) ⟨_, s, ⟨R', by rw [ea]⟩, hr⟩ hto i1.ok (i3.addr p)).mono ?_
   rintro v s ⟨a, rfl⟩
   exact ⟨⟨A', st, a⟩, ⟨_, by rw [ea]⟩⟩
end
end Go.Proofs.YtlgmpheammbacaaGreatDoor
set_option maxRecDepth 1000000
namespace Go.Proofs.YtlgmpheammbacaaGreatDoor
open AM Go
noncomputable section
set_option linter.unusedVariables false
set_option linter.unusedSimpArgs false
attribute [local irreducible] T.get T.set
structure MayC (b l o : Int) : Prop where
 o0 : 0 <= o
 o8 : o <= 8
 l1 : 1 <= l
 l64 : l <= 64
 pages : l * 2 ^ o.toNat <= 1024
 b0 : b ≠ 0
 al : b % (4096 * 2 ^ o.toNat) = 0
 top : 4096 * 2 ^ o.toNat * l + b <= 9223372036854775808
instance (b l o : Int) : Decidable (MayC b l o) :=
 decidable_of_iff (0 <= o /\ o <= 8 /\ 1 <= l /\ l <= 64 /\ l * 2 ^ o.toNat <= 1024 /\ b ≠ 0 /\ b % (4096 * 2 ^ o.toNat) = 0 /\ 4096 * 2 ^ o.toNat * l + b <= 9223372036854775808)
  ⟨fun ⟨a, b, c, d, e, f, g, h⟩ => ⟨a, b, c, d, e, f, g, h⟩, fun h => ⟨h.o0, h.o8, h.l1, h.l64, h.pages, h.b0, h.al, h.top⟩⟩
theorem vlen3 {a b c : V} : [a, b, c].length = 3 := rfl
variable {σ : St}
def cfg (b l o : Int) : V := .agg [.int .u64 b, .int .i64 l, .int .i64 o]
theorem cfg_lcl (σ : St) (b l o : Int) : Lcl (σ.newCells [.int .u64 b, .int .i64 l, .int .i64 o]) σ.next 3 (lst [.int .u64 b, .int .i64 l, .int .i64 o]) := Lcl.of_cells σ _
theorem r_may {b l o : Int} (hb0 : 0 <= b) (hb : b < 18446744073709551616) (hw : GW σ) :
  Runs G0 [] 161 [cfg b l o] σ fun v σ' => v = .bool (decide (MayC b l o)) /\ σ' = σ.newCells [.int .u64 b, .int .i64 l, .int .i64 o] := by
 refine runs_body g161 rfl ?_
 have hl := cfg_lcl σ b l o
 generalize hs : σ.newCells [.int .u64 b, .int .i64 l, .int .i64 o] = σ1 at hl
 have h0 : σ1.cell σ.next 0 = some (.int .u64 b) := hl.cell (i := 0) (by omega)
 have h1 : σ1.cell σ.next 1 = some (.int .i64 l) := hl.cell (i := 1) (by omega)
 have h2 : σ1.cell σ.next 2 = some (.int .i64 o) := hl.cell (i := 2) (by omega)
 by_cases c0 : o < 0
 ·have hn : ¬ MayC b l o := fun h => by have := h.o0; omega
  simp -implicitDefEqProofs only [go_sem, cfg, vcells_agg, vlen3, hs, h0, h1, h2, Nat.reduceEqDiff, c0, decide_true, decide_false, hn]
 by_cases c1 : 8 < o
 ·have hn : ¬ MayC b l o := fun h => by have := h.o8; omega
  simp -implicitDefEqProofs only [go_sem, cfg, vcells_agg, vlen3, hs, h0, h1, h2, Nat.reduceEqDiff, c0, c1, decide_true, decide_false, hn]
 by_cases c2 : l < 1
 ·have hn : ¬ MayC b l o := fun h => by have := h.l1; omega
  simp -implicitDefEqProofs only [go_sem, cfg, vcells_agg, vlen3, hs, h0, h1, h2, Nat.reduceEqDiff, c0, c1, c2, decide_true, decide_false, hn]
 by_cases c3 : 64 < l
 ·have hn : ¬ MayC b l o := fun h => by have := h.l64; omega
  simp -implicitDefEqProofs only [go_sem, cfg, vcells_agg, vlen3, hs, h0, h1, h2, Nat.reduceEqDiff, c0, c1, c2, c3, decide_true, decide_false, hn]
 obtain ⟨k, rfl⟩ : ∃ k : Nat, o = (k : Int) := ⟨o.toNat, by omega⟩
 obtain ⟨m, rfl⟩ : ∃ m : Nat, l = (m : Int) := ⟨l.toNat, by omega⟩
 obtain ⟨n, rfl⟩ : ∃ n : Nat, b = (n : Int) := ⟨b.toNat, by omega⟩
 have hp : 2 ^ k <= 256 := by
  have : (2 : Nat) ^ k <= 2 ^ 8 := Nat.pow_le_pow_right (by omega) (by omega)
  simpa using this
 have hpos : 0 < 2 ^ k := Nat.pow_pos (by omega)
 have hmp : m * 2 ^ k <= 64 * 256 := Nat.mul_le_mul (by omega) hp
 have e1 : shlI .i64 (m : Int) (k : Int) = ((m * 2 ^ k : Nat) : Int) := i64_shl (by omega) (by omega)
 have e2 : shlI .u64 (4096 : Int) (k : Int) = ((4096 * 2 ^ k : Nat) : Int) := u64_shl (a := 4096) (by omega) (by omega)
 have hk0 : (0 : Int) <= (k : Int) := by omega
 have hc1 : ((m * 2 ^ k : Nat) : Int) = (m : Int) * 2 ^ k := by simp
 have hc2 : ((4096 * 2 ^ k : Nat) : Int) = 4096 * 2 ^ k := by simp
 have hc3 : ((4096 * 2 ^ k * m : Nat) : Int) = 4096 * 2 ^ k * (m : Int) := by simp
 have spec : MayC n m k ↔ m * 2 ^ k <= 1024 /\ n ≠ 0 /\ n % (4096 * 2 ^ k) = 0 /\ 4096 * 2 ^ k * m + n <= 9223372036854775808 := by
  constructor
  ·intro h
   have h1 := h.pages; have h2 := h.al; have h3 := h.top; have h4 := h.b0
   simp only [Int.toNat_natCast] at h1 h2 h3
   rw [<- hc1] at h1; rw [<- hc2] at h2; rw [<- hc3] at h3
   exact ⟨by omega, by omega, by omega, by omega⟩
  ·rintro ⟨h1, h2, h3, h4⟩
   refine ⟨by omega, by omega, by omega, by omega, ?_, by omega, ?_, ?_⟩ <;> simp only [Int.toNat_natCast]
   ·rw [<- hc1]; omega
   ·rw [<- hc2]; omega
   ·rw [<- hc3]; omega
 by_cases c4 : (1024 : Int) < ((m * 2 ^ k : Nat) : Int)
 ·have hn : ¬ MayC n m k := fun h => by have := (spec.1 h).1; omega
  simp -implicitDefEqProofs only [go_sem, cfg, vcells_agg, vlen3, hs, h0, h1, h2, Nat.reduceEqDiff, c0, c1, c2, c3, bin_shl, hk0, e1, e2, c4, decide_true, decide_false, hn]
 have hr : ((4096 * 2 ^ k : Nat) : Int) ≠ 0 := by omega
 by_cases c5 : (n : Int) = 0
 ·have hn : ¬ MayC n m k := fun h => by have := (spec.1 h).2.1; omega
  have hd : decide ((n : Int) ≠ 0) = false := by simp [c5]
  simp -implicitDefEqProofs only [go_sem, cfg, vcells_agg, vlen3, hs, h0, h1, h2, Nat.reduceEqDiff, c0, c1, c2, c3, bin_shl, hk0, e1, e2, c4, hd, decide_true, decide_false, hn]
 have e3 : (n : Int).tmod ((4096 * 2 ^ k : Nat) : Int) = ((n % (4096 * 2 ^ k) : Nat) : Int) := nat_tmod _ _
 by_cases c6 : ((n % (4096 * 2 ^ k) : Nat) : Int) = 0
 ·by_cases c7 : (n : Int) <= 9223372036854775808
  ·have e4 : IntKind.u64.wrap (m : Int) = (m : Int) := u64_nat (by omega)
   have hrm : 4096 * 2 ^ k * m <= 4096 * 256 * 64 := Nat.mul_le_mul (Nat.mul_le_mul_left _ hp) (by omega)
   have e5 : IntKind.u64.wrap (((4096 * 2 ^ k : Nat) : Int) * (m : Int)) = ((4096 * 2 ^ k * m : Nat) : Int) := u64_mul (by omega)
   have e6 : IntKind.u64.wrap (9223372036854775808 - (n : Int)) = ((9223372036854775808 - n : Nat) : Int) := u64_sub (a := 9223372036854775808) (by omega) (by omega)
   have e7 : decide (((4096 * 2 ^ k * m : Nat) : Int) <= ((9223372036854775808 - n : Nat) : Int)) = decide (MayC n m k) := by
    rw [decide_eq_decide, spec]
    constructor
    ·intro h; exact ⟨by omega, by omega, by omega, by omega⟩
    ·rintro ⟨_, _, _, h⟩; omega
   simp -implicitDefEqProofs only [go_sem, cfg, vcells_agg, vlen3, hs, h0, h1, h2, Nat.reduceEqDiff, c0, c1, c2, c3, bin_shl, hk0, e1, e2, c4, c5, bin_rem, hr, e3, c6, c7, e4, e5, e6, e7, ne_eq, not_false_eq_true, not_true_eq_false, decide_true, decide_false]
  ·have hn : ¬ MayC n m k := fun h => by have := (spec.1 h).2.2.2; omega
   simp -implicitDefEqProofs only [go_sem, cfg, vcells_agg, vlen3, hs, h0, h1, h2, Nat.reduceEqDiff, c0, c1, c2, c3, bin_shl, hk0, e1, e2, c4, c5, bin_rem, hr, e3, c6, c7, ne_eq, not_false_eq_true, not_true_eq_false, decide_true, decide_false, hn]
 ·have hn : ¬ MayC n m k := fun h => by have := (spec.1 h).2.2.1; omega
  simp -implicitDefEqProofs only [go_sem, cfg, vcells_agg, vlen3, hs, h0, h1, h2, Nat.reduceEqDiff, c0, c1, c2, c3, bin_shl, hk0, e1, e2, c4, c5, bin_rem, hr, e3, c6, ne_eq, not_false_eq_true, not_true_eq_false, decide_true, decide_false, hn]
end
end Go.Proofs.YtlgmpheammbacaaGreatDoor
set_option maxRecDepth 1000000
namespace Go.Proofs.YtlgmpheammbacaaGreatDoor
open AM Go
noncomputable section
set_option linter.unusedVariables false
set_option linter.unusedSimpArgs false
attribute [local irreducible] T.get T.set
variable {σ : St} {A : Slot -> Nat} {has : Slot -> Prop} {size : Slot -> Nat} {cell : Slot -> Nat -> V}
theorem RepF.add (h : RepF σ has A size cell) {s0 : Slot} (hs : ¬ has s0) {b n : Nat} {f : Nat -> V} (L : Lcl σ b n f) (hne : ∀ t, has t -> A t ≠ b) :
  RepF σ (fun t => has t \/ t = s0) (upd A s0 b) (upd size s0 n) (upd cell s0 f) := by
 have hn : ∀ s, has s -> s ≠ s0 := fun s a e => hs (e ▸ a)
 obtain ⟨m, z, t, hm, ho, hc⟩ := L
 refine ⟨h.gw, h.wid, ?_, ?_, ?_⟩
 ·rintro a c (ha | rfl) (hb | rfl) e
  ·rw [upd_ne (hn a ha), upd_ne (hn c hb)] at e; exact h.inj a c ha hb e
  ·rw [upd_ne (hn a ha), upd_same] at e; exact (hne a ha e).elim
  ·rw [upd_ne (hn c hb), upd_same] at e; exact (hne c hb e.symm).elim
  ·rfl
 ·rintro a (ha | rfl)
  ·rw [upd_ne (hn a ha), upd_ne (hn a ha), upd_ne (hn a ha)]; exact h.row a ha
  ·rw [upd_same, upd_same, upd_same]; exact ⟨0, m, z, t, hm, ho, hc⟩
 ·rintro a c o (ha | rfl) hb hab hoo hg
  ·rw [upd_ne (hn a ha)] at hoo
   rcases hb with hb | rfl
   ·rw [upd_ne (hn c hb)]; exact h.cut a c o ha hb hab hoo hg
   ·rw [upd_same]
    intro k
    have := h.gw.grp _ _ _ k ho rfl
    exact hg this.symm
  ·rw [upd_same, ho] at hoo
   simp only [Option.some.injEq] at hoo; subst hoo
   exact absurd rfl hg
theorem RepF.none (w : GW σ) (hw : Wid σ) (A : Slot -> Nat) (size : Slot -> Nat) (cell : Slot -> Nat -> V) : RepF σ (fun _ => False) A size cell :=
 ⟨w, hw, fun _ _ h => h.elim, fun _ h => h.elim, fun _ _ _ h => h.elim⟩
theorem vlen5 {a b c d e : V} : [a, b, c, d, e].length = 5 := rfl
theorem load_cfg {id : Nat} {b l o : Int} (h : Lcl σ id 3 (lst [.int .u64 b, .int .i64 l, .int .i64 o])) : σ.load id 0 3 = some [.int .u64 b, .int .i64 l, .int .i64 o] := by
 rw [h.load (by omega)]; rfl
theorem r_memNew {b l o : Int} (hb0 : 0 <= b) (hb : b < 18446744073709551616) (hw : GW σ) :
  Runs G0 [] 117 [cfg b l o] σ fun v σ' => Grow σ σ' /\ GW σ' /\ (MayC b l o -> ∃ s, v = .tuple [.ptr (some (s, 0)), .int .i64 0] /\ σ.next <= s /\ Lcl σ' s 5 (lst [.int .u64 b, .int .i64 l, .int .i64 o, .int .u64 (shlI .u64 4096 o), .slice none 0 0])) /\ (¬ MayC b l o -> v = .tuple [.ptr none, .int .i64 1]) := by
 refine runs_body g117 rfl ?_
 have hl := cfg_lcl σ b l o
 have hw1 : GW (σ.newCells [.int .u64 b, .int .i64 l, .int .i64 o]) := hw.new _ rfl
 have hg1 : Grow σ (σ.newCells [.int .u64 b, .int .i64 l, .int .i64 o]) := Grow.new σ _
 generalize hs : σ.newCells [.int .u64 b, .int .i64 l, .int .i64 o] = σ1 at hl hw1 hg1
 have hld := load_cfg hl
 obtain ⟨v, σ2, ⟨rfl, hs2⟩, hr⟩ := r_may (l := l) (o := o) hb0 hb hw1
 have hl2 : Lcl σ2 σ.next 3 (lst [.int .u64 b, .int .i64 l, .int .i64 o]) := by rw [hs2]; exact hl.grow hw1 (Grow.new σ1 _)
 have hg2 : Grow σ σ2 := hg1.trans (by rw [hs2]; exact Grow.new σ1 _)
 have hw2 : GW σ2 := by rw [hs2]; exact hw1.new _ rfl
 have hld2 := load_cfg hl2
 have h2 : σ2.cell σ.next 2 = some (.int .i64 o) := hl2.cell (i := 2) (by omega)
 simp -implicitDefEqProofs only [go_sem, cfg, vcells_agg, vlen3, hs, hld, Nat.reduceEqDiff]
 refine runs_ret hr ?_
 by_cases hm : MayC b l o
 ·have hk0 : 0 <= o := hm.o0
  have e0 : fillP [V.int .u64 0, .int .i64 0, .int .i64 0, .int .u64 0, .slice none 0 0] [(0, 3, .agg [.int .u64 b, .int .i64 l, .int .i64 o]), (3, 1, .int .u64 (shlI .u64 4096 o))] =
   some [V.int .u64 b, .int .i64 l, .int .i64 o, .int .u64 (shlI .u64 4096 o), .slice none 0 0] := rfl
  simp -implicitDefEqProofs only [go_sem, cfg, vcells_agg, vlen3, vlen5, hs, hld2, h2, Nat.reduceEqDiff, Nat.reduceLeDiff, hm, decide_true, decide_false, bin_shl, hk0, evalParts, e0]
  exact ⟨hg2.trans (Grow.new σ2 _), hw2.new _ rfl, fun _ => ⟨_, rfl, hg2.next, Lcl.of_cells σ2 _⟩, fun h => (h trivial).elim⟩
 ·simp -implicitDefEqProofs only [go_sem, cfg, vcells_agg, vlen3, hs, hld2, h2, Nat.reduceEqDiff, hm, decide_true, decide_false]
  exact ⟨hg2, hw2, fun h => h.elim, fun _ => trivial⟩
theorem r_NewSet0 (gw : GW σ) : Runs G0 [] 162 [.int .i64 0] σ fun v σ' => v = .ptr (some (σ.next + 1, 0)) /\ Grow σ σ' /\ GW σ' /\ σ'.next = σ.next + 2 /\ Lcl σ' σ.next 0 (fun _ => .int .u64 0) /\ Lcl σ' (σ.next + 1) 2 (lst [.int .i64 0, .slice (some (σ.next, 0)) 0 1]) := by
 refine runs_body g162 rfl ?_
 obtain ⟨v, σ1, hv, hr⟩ := r_Of0 (σ := σ) (n := 0) gw (by omega) (Q := fun v σ' => v = .ptr (some (σ.next + 1, 0)) /\ Grow σ σ' /\ GW σ' /\ σ'.next = σ.next + 2 /\ Lcl σ' σ.next 0 (fun _ => .int .u64 0) /\ Lcl σ' (σ.next + 1) 2 (lst [.int .i64 0, .slice (some (σ.next, 0)) 0 1]))
  (fun s nw e h1 h2 h3 h4 h5 => by subst e; exact ⟨rfl, h2, h1, h3, h4, h5⟩)
 obtain ⟨rfl, h⟩ := hv
 simp -implicitDefEqProofs only [go_sem, Nat.reduceEqDiff]
 refine runs_ret hr ?_
 simp -implicitDefEqProofs only [go_sem, Nat.reduceEqDiff]
 exact h
theorem r_linksNew {s : Option (Nat × Nat)} {x : Int} (gw : GW σ) : Runs G0 [] 211 [.ptr s, .int .u64 x] σ fun v σ' => v = .ptr (some (σ.next, 0)) /\ Grow σ σ' /\ GW σ' /\ σ'.next = σ.next + 1 /\ Lcl σ' σ.next 2 (lst [.ptr s, .int .u64 x]) := by
 refine runs_body g211 rfl ?_
 have hg : Grow σ (σ.newCells [.ptr s, .int .u64 x]) := Grow.new σ _
 have hw : GW (σ.newCells [.ptr s, .int .u64 x]) := gw.new _ rfl
 have e0 : fillP [V.ptr none, .int .u64 0] [(0, 1, .ptr s), (1, 1, .int .u64 x)] = some [V.ptr s, .int .u64 x] := rfl
 have l2 : [V.ptr s, .int .u64 x].length = 2 := rfl
 simp -implicitDefEqProofs only [go_sem, Nat.reduceEqDiff, evalParts, e0, vcells_agg, l2]
 exact ⟨hg, hw, rfl, Lcl.of_cells σ _⟩
end
end Go.Proofs.YtlgmpheammbacaaGreatDoor
set_option maxRecDepth 1000000
namespace Go.Proofs.YtlgmpheammbacaaGreatDoor
open AM Go
noncomputable section
set_option linter.unusedVariables false
set_option linter.unusedSimpArgs false
attribute [local irreducible] T.get T.set
variable {σ : St} {A : Slot -> Nat} {has : Slot -> Prop} {size : Slot -> Nat} {cell : Slot -> Nat -> V}
def ptrRow (A : Slot -> Nat) (s0 : Slot) (i : Nat) : V := if i = 0 then .slice none 0 0 else .slice (some (A s0, 0)) i 1
theorem RepF.push (h : RepF σ has A size cell) {s0 : Slot} {i tt : Nat} {x : V} (h0 : i = 0 -> ¬ has s0) (h1 : i ≠ 0 -> has s0 /\ size s0 = i) (hi : i < 1000) (hx : [x].all V.flat = true) (ht : σ.load tt 0 1 = some [x]) :
  ∃ σ', appendV σ 1 8 (ptrRow A s0 i) (.slice (some (tt, 0)) 1 1) = some (.slice (some (σ.next, 0)) (i + 1) 1, σ') /\ σ'.next = σ.next + 1 ∧
   RepF σ' (fun t => has t \/ t = s0) (upd A s0 σ.next) (upd size s0 (i + 1)) (upd cell s0 fun j => if j < i then cell s0 j else x) := by
 by_cases c : i = 0
 ·subst c
  have R := h.new (s0 := s0) (h0 rfl) (n := 1) (z := []) (t := ofList [x]) (f := lst [x]) (fun j hj => by
   have := cellOf_ofList [x] j
   rw [show [x].length = 1 from rfl] at this
   rw [this, show j = 0 by omega]; rfl)
  refine ⟨_, ?_, rfl, R.congr (fun _ h => h) (fun _ _ => rfl) (fun _ _ => Nat.le_refl _) fun t ht2 j hj => ?_⟩
  ·unfold appendV ptrRow
   rw [if_pos rfl]
   simp only [Nat.mul_one, ht]
   unfold appendL
   rw [if_neg (by simp), if_neg (by omega), if_pos ⟨by unfold maxLenBytes; omega, by unfold maxLenBytes; omega, hx⟩]
   simp only [if_true]
   rfl
  ·by_cases ct : t = s0
   ·subst ct
    rw [upd_same] at hj
    rw [upd_same, upd_same, if_neg (by omega), show j = 0 by omega]; rfl
   ·rw [upd_ne ct, upd_ne ct]
 ·obtain ⟨hs, hsz⟩ := h1 c
  obtain ⟨v3, σ3, ha3⟩ := append_ok (h.row s0 hs) (esz := 1) (bytes := 8) (k := 1) (xl := i) (vs := [x]) (by omega) (by unfold maxLenBytes; omega) (by unfold maxLenBytes; omega) hx
  obtain ⟨hv3, hn3, R3⟩ := h.append (s0 := s0) hs (by omega) ha3
  refine ⟨σ3, ?_, hn3, R3.congr ?_ (fun _ _ => rfl) ?_ ?_⟩
  ·unfold appendV ptrRow
   rw [if_neg c]
   simp only [Nat.mul_one, ht]
   simpa [hv3] using ha3
  ·rintro t (h | rfl)
   ·exact h
   ·exact hs
  ·intro t ht2
   by_cases ct : t = s0
   ·subst ct; rw [upd_same, upd_same]; show i + 1 <= i * 1 + 1; omega
   ·rw [upd_ne ct, upd_ne ct]; exact Nat.le_refl _
  ·intro t ht2 j hj
   by_cases ct : t = s0
   ·subst ct
    rw [upd_same] at hj
    rw [upd_same, upd_same, Nat.mul_one]
    by_cases cj : j < i
    ·rw [if_pos cj, if_pos cj]
    ·rw [if_neg cj, if_neg cj, show j - i = 0 by omega]; rfl
   ·rw [upd_ne ct, upd_ne ct]
theorem upd_or {α : Type} {f : Slot -> α} {s t : Slot} {x : α} : upd f s x t = if t = s then x else f t := rfl
def mapHas (i : Nat) (t : Slot) : Prop := t = .map \/ (t = .pairs /\ 0 < i) \/ ∃ j, j < i /\ (t = .set j \/ t = .words j)
structure MapF (k i : Nat) (A : Slot -> Nat) (size : Slot -> Nat) (cell : Slot -> Nat -> V) : Prop where
 sm : size .map = 3
 cm : ∀ j, j < 3 -> cell .map j = lst [.int .i64 k, .slice none 0 0, ptrRow A .pairs i] j
 sp : 0 < i -> size .pairs = i
 cp : ∀ j, j < i -> cell .pairs j = .ptr (some (A (.set j), 0))
 ss : ∀ j, j < i -> size (.set j) = 2
 cs : ∀ j, j < i -> ∀ m, m < 2 -> cell (.set j) m = lst [.int .i64 0, .slice (some (A (.words j), 0)) 0 1] m
 sw : ∀ j, j < i -> size (.words j) = 0
theorem r_mapNew {k : Nat} (hk : k <= 8) (h : RepF σ has A size cell) (hno : ∀ i t, mapHas i t -> ¬ has t) :
  Runs G0 [] 118 [.int .i64 k] σ fun v s => ∃ A' size' cell', v = .ptr (some (A' .map, 0)) /\ RepF s (fun t => has t \/ mapHas k t) A' size' cell' /\ (∀ t, has t -> A' t = A t /\ size' t = size t /\ cell' t = cell t) /\ MapF k k A' size' cell' := by
 refine runs_body g118 rfl ?_
 have x1 : maxV false (.int .i64 (k : Int)) [.int .i64 8] = some (.int .i64 k) := by
  simp only [maxV, if_true, Bool.false_eq_true, if_false]; rw [if_neg (by omega)]
 have x2 : maxV true (.int .i64 0) [.int .i64 (k : Int)] = some (.int .i64 k) := by
  simp only [maxV, if_true]
  by_cases h : (k : Int) > 0
  ·rw [if_pos h]
  ·rw [if_neg h]; congr 2; omega
 have e0 : fillP [V.int .i64 0, .slice none 0 0, .slice none 0 0] [(0, 1, .int .i64 (k : Int))] = some [V.int .i64 k, .slice none 0 0, .slice none 0 0] := rfl
 have hmn : ¬ has .map := hno 0 .map (.inl rfl)
 obtain ⟨m, hm⟩ : ∃ m, m = σ.next := ⟨_, rfl⟩
 obtain ⟨σ1, hs1⟩ : ∃ s, s = σ.newCells [.int .i64 k, .slice none 0 0, .slice none 0 0] := ⟨_, rfl⟩
 have R1 := h.new (s0 := .map) hmn (n := 3) (z := []) (t := ofList [.int .i64 k, .slice none 0 0, .slice none 0 0]) (f := lst [.int .i64 k, .slice none 0 0, .slice none 0 0]) (fun i hi => by
  have := cellOf_ofList [V.int .i64 k, .slice none 0 0, .slice none 0 0] i
  rw [show [V.int .i64 k, .slice none 0 0, .slice none 0 0].length = 3 from rfl] at this
  rw [this]
  rcases (by omega : i = 0 \/ i = 1 \/ i = 2) with rfl | rfl | rfl <;> rfl)
 have R1' : RepF σ1 (fun t => has t \/ t = .map) (upd A .map m) (upd size .map 3) (upd cell .map (lst [.int .i64 k, .slice none 0 0, .slice none 0 0])) := by rw [hs1, hm]; exact R1
 have c0 : σ1.cell m 0 = some (.int .i64 k) := by
  have := R1'.cell_at (s := .map) (.inr rfl) (i := 0) (by rw [upd_same]; omega)
  rw [upd_same, upd_same] at this; exact this
 simp -implicitDefEqProofs only [go_sem, Nat.reduceEqDiff, pure_mm, x1, x2, evalParts, e0, vcells_agg, vlen3, <- hm, <- hs1, c0]
 refine aw_loop (fun (n : Nat) (fr : AM.Fr) (s : St) => fr.defers = [] /\ fr.tmps.get 3 = some (.ptr (some (m, 0))) /\ fr.tmps.get 12 = some (.int .i64 k) ∧
  ∃ i : Nat, fr.tmps.get 13 = some (.int .i64 i) /\ i + n = k /\ ∃ A' size' cell', RepF s (fun t => has t \/ mapHas i t) A' size' cell' /\ (∀ t, has t -> A' t = A t /\ size' t = size t /\ cell' t = cell t) /\ MapF k i A' size' cell' /\ A' .map = m) ?_ k ?_
 ·rintro n ⟨tm, ds⟩ s ⟨hd, t3, t12, i, t13, hi, A', size', cell', R, hold, M, hAm⟩
  simp only at hd t3 t12 t13
  subst hd
  by_cases hik : i < k
  ·have d1 : (i : Int) < (k : Int) := by omega
   have hmap : has Slot.map \/ mapHas i .map := .inr (.inl rfl)
   have d2 : s.cell m 2 = some (ptrRow A' .pairs i) := by
    have := R.cell_at (s := .map) hmap (i := 2) (by rw [M.sm]; omega)
    rw [hAm, M.cm 2 (by omega)] at this; exact this
   have nW : ¬ (has (.words i) \/ mapHas i (.words i)) := by
    rintro (h | h | ⟨h, _⟩ | ⟨j, hj, h | h⟩)
    ·exact hno (i + 1) (.words i) (.inr (.inr ⟨i, by omega, .inr rfl⟩)) h
    ·cases h
    ·cases h
    ·cases h
    ·cases h; omega
   have nS : ¬ ((has (.set i) \/ mapHas i (.set i)) \/ Slot.set i = .words i) := by
    rintro ((h | h | ⟨h, _⟩ | ⟨j, hj, h | h⟩) | h)
    ·exact hno (i + 1) (.set i) (.inr (.inr ⟨i, by omega, .inl rfl⟩)) h
    ·cases h
    ·cases h
    ·cases h; omega
    ·cases h
    ·cases h
   obtain ⟨v, s1, ⟨rfl, g1, w1, n1, Lw, Ls⟩, hr⟩ := r_NewSet0 R.gw
   have Ra := (R.grow g1 w1).add (s0 := .words i) nW Lw (fun t ht => by have := R.is_lt ht; omega)
   have Rb := Ra.add (s0 := .set i) nS Ls (fun t ht => by
    rcases ht with ht | rfl
    ·have := R.is_lt ht
     by_cases e : t = .words i
     ·subst e; rw [upd_same]; omega
     ·rw [upd_ne e]; omega
    ·rw [upd_same]; omega)
   have e1 : fillP (repeatZ [V.ptr none] 1) [(0, 1, .ptr (some (s.next + 1, 0)))] = some [V.ptr (some (s.next + 1, 0))] := rfl
   obtain ⟨s2, hs2⟩ : ∃ s2, s2 = s1.newCells [.ptr (some (s.next + 1, 0))] := ⟨_, rfl⟩
   have g2 : Grow s1 s2 := by rw [hs2]; exact Grow.new s1 _
   have w2 : GW s2 := by rw [hs2]; exact w1.new _ rfl
   have Rc := Rb.grow g2 w2
   have ht : s2.load s1.next 0 1 = some [.ptr (some (s.next + 1, 0))] := by
    rw [hs2, (newCellsRow s1 [.ptr (some (s.next + 1, 0))]).load (off := 0) (k := 1) (by simp)]; rfl
   have hpp : upd (upd A' (.words i) s.next) (.set i) (s.next + 1) .pairs = A' .pairs := by rw [upd_ne (by simp), upd_ne (by simp)]
   have hrow : ptrRow (upd (upd A' (.words i) s.next) (.set i) (s.next + 1)) .pairs i = ptrRow A' .pairs i := by unfold ptrRow; rw [hpp]
   obtain ⟨s3, ha, n3, Rd⟩ := Rc.push (s0 := .pairs) (i := i) (tt := s1.next) (x := .ptr (some (s.next + 1, 0))) (fun e => by
    rintro ((h | h) | h)
    ·rcases h with h | h | ⟨h, h2⟩ | ⟨j, hj, h | h⟩
     ·exact hno 1 .pairs (.inr (.inl ⟨rfl, by omega⟩)) h
     ·cases h
     ·omega
     ·cases h
     ·cases h
    ·cases h
    ·cases h) (fun e => ⟨.inl (.inl (.inr (.inr (.inl ⟨rfl, by omega⟩)))), by rw [upd_ne (by simp), upd_ne (by simp)]; exact M.sp (by omega)⟩) (by omega) rfl ht
   rw [hrow] at ha
   obtain ⟨s4, hst, Re, n4⟩ := Rd.store (s := .map) (.inl (.inl (.inl (.inr (.inl rfl))))) (off := 2) (vs := [.slice (some (s2.next, 0)) (i + 1) 1]) (by rw [upd_ne (by simp), upd_ne (by simp), upd_ne (by simp), M.sm]; simp) rfl
   rw [upd_ne (by simp), upd_ne (by simp), upd_ne (by simp), hAm] at hst
   have hcell : ∀ (τ : St), Grow s τ -> τ.cell m 2 = some (ptrRow A' .pairs i) := by
    intro τ g
    unfold St.cell at d2 ⊢
    have hml : m < s.next := by have := R.is_lt hmap; rw [hAm] at this; exact this
    rw [g.old m hml]; exact d2
   have d3 := hcell s1 g1
   have d4 := hcell s2 (g1.trans g2)
   have hAe : ptrRow A' .pairs i = ptrRow A' .pairs i := rfl
   have hvc : (V.slice (some (s2.next, 0)) (i + 1) 1).cells = [.slice (some (s2.next, 0)) (i + 1) 1] := rfl
   have hl1 : [V.slice (some (s2.next, 0)) (i + 1) 1].length = 1 := rfl
   have e9 : IntKind.i64.wrap ((i : Int) + 1) = ((i + 1 : Nat) : Int) := i64_add (a := i) (b := 1) (by omega)
   simp -implicitDefEqProofs only [go_sem, Nat.reduceEqDiff, Nat.reduceLeDiff, t3, t12, t13, d1, decide_true, d2]
   refine runs_ret hr ?_
   simp -implicitDefEqProofs only [go_sem, Nat.reduceEqDiff, Nat.reduceLeDiff, t3, t12, t13, d1, decide_true, d2, d3, d4, evalParts, e1, <- hs2, ha, hvc, hl1, hst, e9]
   refine ⟨n - 1, by omega, i + 1, rfl, by omega, _, _, _, Re.congr ?_ (fun _ _ => rfl) (fun _ _ => Nat.le_refl _) (fun _ _ _ _ => rfl), ?_, ?_, ?_⟩
   ·rintro t (h | rfl | ⟨rfl, h⟩ | ⟨j, hj, h⟩)
    ·exact .inl (.inl (.inl (.inl h)))
    ·exact .inl (.inl (.inl (.inr (.inl rfl))))
    ·exact .inr rfl
    ·by_cases e : j = i
     ·subst e
      rcases h with rfl | rfl
      ·exact .inl (.inr rfl)
      ·exact .inl (.inl (.inr rfl))
     ·exact .inl (.inl (.inl (.inr (.inr (.inr ⟨j, by omega, h⟩)))))
   ·intro t ht
    have n1 : t ≠ .pairs := fun e => hno 1 .pairs (.inr (.inl ⟨rfl, by omega⟩)) (e ▸ ht)
    have n2 : t ≠ .set i := fun e => hno (i + 1) (.set i) (.inr (.inr ⟨i, by omega, .inl rfl⟩)) (e ▸ ht)
    have n3 : t ≠ .words i := fun e => hno (i + 1) (.words i) (.inr (.inr ⟨i, by omega, .inr rfl⟩)) (e ▸ ht)
    have n4 : t ≠ .map := fun e => hmn (e ▸ ht)
    obtain ⟨a, b, c⟩ := hold t ht
    refine ⟨?_, ?_, ?_⟩
    ·rw [upd_ne n1, upd_ne n2, upd_ne n3]; exact a
    ·rw [upd_ne n1, upd_ne n2, upd_ne n3]; exact b
    ·rw [upd_ne n4, upd_ne n1, upd_ne n2, upd_ne n3]; exact c
   ·have nsi : ∀ j, j < i -> Slot.set j ≠ .set i := fun j hj e => by cases e; omega
    have nwi : ∀ j, j < i -> Slot.words j ≠ .words i := fun j hj e => by cases e; omega
    refine ⟨?_, ?_, ?_, ?_, ?_, ?_, ?_⟩
    ·rw [upd_ne (by simp), upd_ne (by simp), upd_ne (by simp)]; exact M.sm
    ·intro j hj
     rw [upd_same]
     unfold over
     have hrow2 : ptrRow (upd (upd (upd A' (.words i) s.next) (.set i) (s.next + 1)) .pairs s2.next) .pairs (i + 1) = .slice (some (s2.next, 0)) (i + 1) 1 := by
      unfold ptrRow; rw [if_neg (by omega), upd_same]
     rw [hrow2]
     rcases (by omega : j = 0 \/ j = 1 \/ j = 2) with rfl | rfl | rfl
     ·rw [if_neg (by simp), upd_ne (by simp), upd_ne (by simp), upd_ne (by simp)]; exact M.cm 0 (by omega)
     ·rw [if_neg (by simp), upd_ne (by simp), upd_ne (by simp), upd_ne (by simp)]; exact M.cm 1 (by omega)
     ·rw [if_pos (by simp)]; rfl
    ·intro _; rw [upd_same]
    ·intro j hj
     by_cases e : j = i
     ·subst e; simp [upd_or]
     ·have := M.cp j (by omega)
      simp [upd_or, e, show j < i by omega, this]
    ·intro j hj
     by_cases e : j = i
     ·subst e; simp [upd_or]
     ·have := M.ss j (by omega)
      simp [upd_or, e, this]
    ·intro j hj q hq
     by_cases e : j = i
     ·subst e; simp [upd_or]
     ·have := M.cs j (by omega) q hq
      simp [upd_or, e, this]
    ·intro j hj
     by_cases e : j = i
     ·subst e; simp [upd_or]
     ·have := M.sw j (by omega)
      simp [upd_or, e, this]
   ·rw [upd_ne (by simp), upd_ne (by simp), upd_ne (by simp)]; exact hAm
  ·have c1 : ¬ ((i : Int) < (k : Int)) := by omega
   have e : i = k := by omega
   subst e
   simp -implicitDefEqProofs only [go_sem, Nat.reduceEqDiff, t3, t12, t13, c1, decide_false]
   exact ⟨A', size', cell', by rw [hAm], R, hold, M⟩
 ·simp -implicitDefEqProofs only [go_sem, Nat.reduceEqDiff]
  refine ⟨0, rfl, by omega, _, _, _, R1'.congr ?_ (fun _ _ => rfl) (fun _ _ => Nat.le_refl _) (fun _ _ _ _ => rfl), ?_, ?_, upd_same⟩
  ·rintro t (h | rfl | ⟨_, h⟩ | ⟨j, hj, h⟩)
   ·exact .inl h
   ·exact .inr rfl
   ·omega
   ·omega
  ·intro t ht
   have n4 : t ≠ .map := fun e => hmn (e ▸ ht)
   exact ⟨upd_ne n4, upd_ne n4, upd_ne n4⟩
  ·refine ⟨upd_same, fun j hj => ?_, fun h => by omega, fun j hj => by omega, fun j hj => by omega, fun j hj => by omega, fun j hj => by omega⟩
   rw [upd_same]
   unfold ptrRow
   rw [if_pos rfl]
end
end Go.Proofs.YtlgmpheammbacaaGreatDoor
set_option maxRecDepth 1000000
namespace Go.Proofs.YtlgmpheammbacaaGreatDoor
open AM Go
noncomputable section
set_option linter.unusedVariables false
set_option linter.unusedSimpArgs false
attribute [local irreducible] T.get T.set
variable {σ : St} {A : Slot -> Nat} {has : Slot -> Prop} {size : Slot -> Nat} {cell : Slot -> Nat -> V}
def budHas (i : Nat) (t : Slot) : Prop := t = .buddy \/ (t = .lists /\ 0 < i) \/ ∃ j, j < i /\ t = .list j
structure BudF (b l : Int) (k : Nat) (ps pm : Option (Nat × Nat)) (i : Nat) (A : Slot -> Nat) (size : Slot -> Nat) (cell : Slot -> Nat -> V) : Prop where
 sb : size .buddy = 6
 cb : ∀ j, j < 6 -> cell .buddy j = lst [.int .u64 b, .int .i64 l, .int .i64 k, .ptr ps, .ptr pm, ptrRow A .lists i] j
 sl : 0 < i -> size .lists = i
 cl : ∀ j, j < i -> cell .lists j = .ptr (some (A (.list j), 0))
 ss : ∀ j, j < i -> size (.list j) = 2
 cs : ∀ j, j < i -> ∀ m, m < 2 -> cell (.list j) m = lst [.ptr ps, .int .u64 0] m
theorem r_buddyOpen {b l : Int} {k hd : Nat} {ps pm : Option (Nat × Nat)} (hk : k <= 8) (h : RepF σ has A size cell) (hh : has .heap) (hhd : A .heap = hd) (hs : size .heap = k + 1) (hc : cell .heap = fun _ => .int .u64 0) (hno : ∀ i t, budHas i t -> ¬ has t) :
  Runs G0 [] 163 [cfg b l k, .ptr ps, .ptr pm, .slice (some (hd, 0)) (k + 1) 1] σ fun v s => ∃ A' size' cell', v = .tuple [.ptr (some (A' .buddy, 0)), .int .i64 0] /\ RepF s (fun t => has t \/ budHas (k + 1) t) A' size' cell' /\ (∀ t, has t -> A' t = A t /\ size' t = size t /\ cell' t = cell t) /\ BudF b l k ps pm (k + 1) A' size' cell' := by
 refine runs_body g163 rfl ?_
 obtain ⟨σ1, hs1⟩ : ∃ s, s = σ.newCells [.int .u64 b, .int .i64 l, .int .i64 k] := ⟨_, rfl⟩
 have hl := cfg_lcl σ b l k
 have gw := h.gw
 have w1 : GW (σ.newCells [.int .u64 b, .int .i64 l, .int .i64 k]) := gw.new _ rfl
 have g1 : Grow σ σ1 := by rw [hs1]; exact Grow.new _ _
 rw [<- hs1] at hl w1
 have hld := load_cfg hl
 have c2 : σ1.cell σ.next 2 = some (.int .i64 k) := hl.cell (i := 2) (by omega)
 have e1 : IntKind.i64.wrap ((k : Int) + 1) = ((k + 1 : Nat) : Int) := i64_add (a := k) (b := 1) (by omega)
 have d1 : decide (((k + 1 : Nat) : Int) ≠ ((k + 1 : Nat) : Int)) = false := by simp
 have e0 : fillP [V.int .u64 0, .int .i64 0, .int .i64 0, .ptr none, .ptr none, .slice none 0 0] [(0, 3, .agg [.int .u64 b, .int .i64 l, .int .i64 k]), (3, 1, .ptr ps), (4, 1, .ptr pm)] =
  some [V.int .u64 b, .int .i64 l, .int .i64 k, .ptr ps, .ptr pm, .slice none 0 0] := rfl
 have l6 : [V.int .u64 b, .int .i64 l, .int .i64 k, .ptr ps, .ptr pm, .slice none 0 0].length = 6 := rfl
 obtain ⟨m, hm⟩ : ∃ m, m = σ1.next := ⟨_, rfl⟩
 obtain ⟨σ2, hs2⟩ : ∃ s, s = σ1.newCells [V.int .u64 b, .int .i64 l, .int .i64 k, .ptr ps, .ptr pm, .slice none 0 0] := ⟨_, rfl⟩
 have hbn : ¬ has .buddy := hno 0 .buddy (.inl rfl)
 have R1 := (h.grow g1 w1).new (s0 := .buddy) hbn (n := 6) (z := []) (t := ofList [V.int .u64 b, .int .i64 l, .int .i64 k, .ptr ps, .ptr pm, .slice none 0 0]) (f := lst [V.int .u64 b, .int .i64 l, .int .i64 k, .ptr ps, .ptr pm, .slice none 0 0]) (fun i hi => by
  have := cellOf_ofList [V.int .u64 b, .int .i64 l, .int .i64 k, .ptr ps, .ptr pm, .slice none 0 0] i
  rw [l6] at this
  rw [this]
  rcases (by omega : i = 0 \/ i = 1 \/ i = 2 \/ i = 3 \/ i = 4 \/ i = 5) with rfl | rfl | rfl | rfl | rfl | rfl <;> rfl)
 have R2 : RepF σ2 (fun t => has t \/ t = .buddy) (upd A .buddy m) (upd size .buddy 6) (upd cell .buddy (lst [V.int .u64 b, .int .i64 l, .int .i64 k, .ptr ps, .ptr pm, .slice none 0 0])) := by rw [hs2, hm]; exact R1
 simp -implicitDefEqProofs only [go_sem, cfg, vcells_agg, vlen3, Nat.reduceEqDiff, <- hs1, hld, c2, e1, d1, evalParts, e0, l6, <- hm, <- hs2]
 refine aw_loop (fun (n : Nat) (fr : AM.Fr) (s : St) => fr.defers = [] /\ fr.tmps.get 1 = some (.ptr ps) /\ fr.tmps.get 10 = some (.ptr (some (m, 0))) /\ fr.tmps.get 24 = some (.slice (some (hd, 0)) (k + 1) 1) /\ fr.tmps.get 25 = some (.int .i64 (k + 1 : Nat)) ∧
  ∃ i : Nat, fr.tmps.get 26 = some (.int .i64 i) /\ i + n = k + 1 /\ ∃ A' size' cell', RepF s (fun t => has t \/ budHas i t) A' size' cell' /\ (∀ t, has t -> A' t = A t /\ size' t = size t /\ cell' t = cell t) /\ BudF b l k ps pm i A' size' cell' /\ A' .buddy = m) ?_ (k + 1) ?_
 ·rintro n ⟨tm, ds⟩ s ⟨hde, t1, t10, t24, t25, i, t26, hi, A', size', cell', R, hold, M, hAm⟩
  simp only at hde t1 t10 t24 t25 t26
  subst hde
  by_cases hik : i < k + 1
  ·have c1 : (i : Int) < ((k + 1 : Nat) : Int) := by omega
   have c1' : (0 : Int) <= (i : Int) := by omega
   have hbud : has Slot.buddy \/ budHas i .buddy := .inr (.inl rfl)
   have ch : s.cell hd i = some (.int .u64 0) := by
    obtain ⟨a1, a2, a3⟩ := hold .heap hh
    have := R.cell_at (s := .heap) (.inl hh) (i := i) (by rw [a2, hs]; exact hik)
    rw [a1, a3, hc, hhd] at this; exact this
   have d2 : s.cell m 5 = some (ptrRow A' .lists i) := by
    have := R.cell_at (s := .buddy) hbud (i := 5) (by rw [M.sb]; omega)
    rw [hAm, M.cb 5 (by omega)] at this; exact this
   have nL : ¬ (has (.list i) \/ budHas i (.list i)) := by
    rintro (h | h | ⟨h, _⟩ | ⟨j, hj, h⟩)
    ·exact hno (i + 1) (.list i) (.inr (.inr ⟨i, by omega, rfl⟩)) h
    ·cases h
    ·cases h
    ·cases h; omega
   obtain ⟨v, s1, ⟨rfl, g2, w2, n2, Ll⟩, hr⟩ := r_linksNew (s := ps) (x := 0) R.gw
   have Ra := (R.grow g2 w2).add (s0 := .list i) nL Ll (fun t ht => by have := R.is_lt ht; omega)
   have e1 : fillP (repeatZ [V.ptr none] 1) [(0, 1, .ptr (some (s.next, 0)))] = some [V.ptr (some (s.next, 0))] := rfl
   obtain ⟨s2, hs2⟩ : ∃ s2, s2 = s1.newCells [.ptr (some (s.next, 0))] := ⟨_, rfl⟩
   have g3 : Grow s1 s2 := by rw [hs2]; exact Grow.new s1 _
   have w3 : GW s2 := by rw [hs2]; exact w2.new _ rfl
   have Rc := Ra.grow g3 w3
   have ht : s2.load s1.next 0 1 = some [.ptr (some (s.next, 0))] := by
    rw [hs2, (newCellsRow s1 [.ptr (some (s.next, 0))]).load (off := 0) (k := 1) (by simp)]; rfl
   have hpp : upd A' (.list i) s.next .lists = A' .lists := upd_ne (by simp)
   have hrow : ptrRow (upd A' (.list i) s.next) .lists i = ptrRow A' .lists i := by unfold ptrRow; rw [hpp]
   obtain ⟨s3, ha, n3, Rd⟩ := Rc.push (s0 := .lists) (i := i) (tt := s1.next) (x := .ptr (some (s.next, 0))) (fun e => by
    rintro (h | h)
    ·rcases h with h | h | ⟨h, h2⟩ | ⟨j, hj, h⟩
     ·exact hno 1 .lists (.inr (.inl ⟨rfl, by omega⟩)) h
     ·cases h
     ·omega
     ·cases h
    ·cases h) (fun e => ⟨.inl (.inr (.inr (.inl ⟨rfl, by omega⟩))), by rw [upd_ne (by simp)]; exact M.sl (by omega)⟩) (by omega) rfl ht
   rw [hrow] at ha
   obtain ⟨s4, hst, Re, n4⟩ := Rd.store (s := .buddy) (.inl (.inl (.inr (.inl rfl)))) (off := 5) (vs := [.slice (some (s2.next, 0)) (i + 1) 1]) (by rw [upd_ne (by simp), upd_ne (by simp), M.sb]; simp) rfl
   rw [upd_ne (by simp), upd_ne (by simp), hAm] at hst
   have hcell : ∀ (τ : St), Grow s τ -> τ.cell m 5 = some (ptrRow A' .lists i) := by
    intro τ g
    unfold St.cell at d2 ⊢
    have hml : m < s.next := by have := R.is_lt hbud; rw [hAm] at this; exact this
    rw [g.old m hml]; exact d2
   have d3 := hcell s1 g2
   have d4 := hcell s2 (g2.trans g3)
   have hvc : (V.slice (some (s2.next, 0)) (i + 1) 1).cells = [.slice (some (s2.next, 0)) (i + 1) 1] := rfl
   have hl1 : [V.slice (some (s2.next, 0)) (i + 1) 1].length = 1 := rfl
   have e9 : IntKind.i64.wrap ((i : Int) + 1) = ((i + 1 : Nat) : Int) := i64_add (a := i) (b := 1) (by omega)
   simp -implicitDefEqProofs only [go_sem, Nat.reduceEqDiff, Nat.reduceLeDiff, t1, t10, t24, t25, t26, c1, c1', and_self, decide_true, Int.toNat_natCast, Nat.mul_one, Nat.zero_add, ch, d2]
   refine runs_ret hr ?_
   simp -implicitDefEqProofs only [go_sem, Nat.reduceEqDiff, Nat.reduceLeDiff, t1, t10, t24, t25, t26, c1, c1', decide_true, d2, d3, d4, evalParts, e1, <- hs2, ha, hvc, hl1, hst, e9]
   refine ⟨n - 1, by omega, i + 1, rfl, by omega, _, _, _, Re.congr ?_ (fun _ _ => rfl) (fun _ _ => Nat.le_refl _) (fun _ _ _ _ => rfl), ?_, ?_, ?_⟩
   ·rintro t (h | rfl | ⟨rfl, h⟩ | ⟨j, hj, rfl⟩)
    ·exact .inl (.inl (.inl h))
    ·exact .inl (.inl (.inr (.inl rfl)))
    ·exact .inr rfl
    ·by_cases e : j = i
     ·subst e; exact .inl (.inr rfl)
     ·exact .inl (.inl (.inr (.inr (.inr ⟨j, by omega, rfl⟩))))
   ·intro t ht
    have n1 : t ≠ .lists := fun e => hno 1 .lists (.inr (.inl ⟨rfl, by omega⟩)) (e ▸ ht)
    have n2 : t ≠ .list i := fun e => hno (i + 1) (.list i) (.inr (.inr ⟨i, by omega, rfl⟩)) (e ▸ ht)
    have n4 : t ≠ .buddy := fun e => hbn (e ▸ ht)
    obtain ⟨a, b, c⟩ := hold t ht
    refine ⟨?_, ?_, ?_⟩
    ·rw [upd_ne n1, upd_ne n2]; exact a
    ·rw [upd_ne n1, upd_ne n2]; exact b
    ·rw [upd_ne n4, upd_ne n1, upd_ne n2]; exact c
   ·refine ⟨?_, ?_, ?_, ?_, ?_, ?_⟩
    ·rw [upd_ne (by simp), upd_ne (by simp)]; exact M.sb
    ·intro j hj
     rw [upd_same]
     unfold over
     have hrow2 : ptrRow (upd (upd A' (.list i) s.next) .lists s2.next) .lists (i + 1) = .slice (some (s2.next, 0)) (i + 1) 1 := by
      unfold ptrRow; rw [if_neg (by omega), upd_same]
     rw [hrow2]
     have hM := M.cb j hj
     rcases (by omega : j = 0 \/ j = 1 \/ j = 2 \/ j = 3 \/ j = 4 \/ j = 5) with rfl | rfl | rfl | rfl | rfl | rfl
     ·rw [if_neg (by simp), upd_ne (by simp), upd_ne (by simp)]; exact hM
     ·rw [if_neg (by simp), upd_ne (by simp), upd_ne (by simp)]; exact hM
     ·rw [if_neg (by simp), upd_ne (by simp), upd_ne (by simp)]; exact hM
     ·rw [if_neg (by simp), upd_ne (by simp), upd_ne (by simp)]; exact hM
     ·rw [if_neg (by simp), upd_ne (by simp), upd_ne (by simp)]; exact hM
     ·rw [if_pos (by simp)]; rfl
    ·intro _; rw [upd_same]
    ·intro j hj
     by_cases e : j = i
     ·subst e; simp [upd_or]
     ·have := M.cl j (by omega)
      simp [upd_or, e, show j < i by omega, this]
    ·intro j hj
     by_cases e : j = i
     ·subst e; simp [upd_or]
     ·have := M.ss j (by omega)
      simp [upd_or, e, this]
    ·intro j hj q hq
     by_cases e : j = i
     ·subst e; simp [upd_or]
     ·have := M.cs j (by omega) q hq
      simp [upd_or, e, this]
   ·rw [upd_ne (by simp), upd_ne (by simp)]; exact hAm
  ·have c1 : ¬ ((i : Int) < ((k + 1 : Nat) : Int)) := by omega
   have e : i = k + 1 := by omega
   subst e
   simp -implicitDefEqProofs only [go_sem, Nat.reduceEqDiff, t10, t24, t25, t26, c1, decide_false]
   exact ⟨A', size', cell', by rw [hAm], R, hold, M⟩
 ·simp -implicitDefEqProofs only [go_sem, Nat.reduceEqDiff]
  refine ⟨0, rfl, by omega, _, _, _, R2.congr ?_ (fun _ _ => rfl) (fun _ _ => Nat.le_refl _) (fun _ _ _ _ => rfl), ?_, ?_, upd_same⟩
  ·rintro t (h | rfl | ⟨_, h⟩ | ⟨j, hj, h⟩)
   ·exact .inl h
   ·exact .inr rfl
   ·omega
   ·omega
  ·intro t ht
   have n4 : t ≠ .buddy := fun e => hbn (e ▸ ht)
   exact ⟨upd_ne n4, upd_ne n4, upd_ne n4⟩
  ·refine ⟨upd_same, fun j hj => ?_, fun h => by omega, fun j hj => by omega, fun j hj => by omega, fun j hj => by omega⟩
   rw [upd_same]
   unfold ptrRow
   rw [if_pos rfl]
theorem r_buddyNew {b l : Int} {k : Nat} {ps pm : Option (Nat × Nat)} (hk : k <= 8) (h : RepF σ has A size cell) (hh : ¬ has .heap) (hno : ∀ i t, budHas i t -> ¬ has t) :
  Runs G0 [] 119 [cfg b l k, .ptr ps, .ptr pm] σ fun v s => ∃ A' size' cell', v = .ptr (some (A' .buddy, 0)) /\ RepF s (fun t => has t \/ budHas (k + 1) t) A' size' cell' /\ (∀ t, has t -> A' t = A t /\ size' t = size t /\ cell' t = cell t) /\ BudF b l k ps pm (k + 1) A' size' cell' := by
 refine runs_body g119 rfl ?_
 obtain ⟨σ1, hs1⟩ : ∃ s, s = σ.newCells [.int .u64 b, .int .i64 l, .int .i64 k] := ⟨_, rfl⟩
 have gw := h.gw
 have hl := cfg_lcl σ b l k
 have w1 : GW (σ.newCells [.int .u64 b, .int .i64 l, .int .i64 k]) := gw.new _ rfl
 have g1 : Grow σ σ1 := by rw [hs1]; exact Grow.new _ _
 rw [<- hs1] at hl w1
 have hld := load_cfg hl
 have c2 : σ1.cell σ.next 2 = some (.int .i64 k) := hl.cell (i := 2) (by omega)
 have e1 : IntKind.i64.wrap ((k : Int) + 1) = ((k + 1 : Nat) : Int) := i64_add (a := k) (b := 1) (by omega)
 have x2 : maxV true (.int .i64 0) [.int .i64 ((k + 1 : Nat) : Int)] = some (.int .i64 ((k + 1 : Nat) : Int)) := by
  simp only [maxV, if_true]
  rw [if_pos (by omega)]
 have m0 : (0 : Int) <= ((k + 1 : Nat) : Int) /\ ((k + 1 : Nat) : Int) <= ((k + 1 : Nat) : Int) /\ (k + 1) * 8 <= maxLenBytes /\ ((k + 1 : Nat) : Int) < 9223372036854775808 := by unfold maxLenBytes; omega
 obtain ⟨hd, hhd⟩ : ∃ m, m = σ1.next := ⟨_, rfl⟩
 obtain ⟨σ2, hs2⟩ : ∃ s, s = σ1.new (.cells false 0 (k + 1) [.int .u64 0] .nil) := ⟨_, rfl⟩
 have R2 := (h.grow g1 w1).new (s0 := .heap) hh (n := k + 1) (z := [.int .u64 0]) (t := .nil) (f := fun _ => .int .u64 0) (fun i hi => by
  unfold cellOf
  rw [if_pos hi, T.get_nil]
  simp [Nat.mod_one])
 have R2' : RepF σ2 (fun t => has t \/ t = .heap) (upd A .heap hd) (upd size .heap (k + 1)) (upd cell .heap fun _ => .int .u64 0) := by rw [hs2, hhd]; exact R2
 have g2 : Grow σ1 σ2 := by rw [hs2]; exact Grow.new _ _
 have hld2 := load_cfg (hl.grow w1 g2)
 obtain ⟨v, σ3, ⟨A3, s3, c3, rfl, R3, hold, M⟩, hr⟩ := r_buddyOpen (b := b) (l := l) (ps := ps) (pm := pm) (hd := hd) hk R2' (.inr rfl) upd_same upd_same upd_same (fun i t ht => by
  rintro (h | rfl)
  ·exact hno i t ht h
  ·rcases ht with h | ⟨h, _⟩ | ⟨j, _, h⟩ <;> cases h)
 have hcall : ∀ {Q : V -> St -> Prop}, Q (.tuple [.ptr (some (A3 .buddy, 0)), .int .i64 0]) σ3 -> Runs G0 [] 163 [.agg [.int .u64 b, .int .i64 l, .int .i64 k], .ptr ps, .ptr pm, .slice (some (hd, 0)) (k + 1) 1] σ2 Q := fun h => runs_ret hr h
 simp -implicitDefEqProofs only [go_sem, cfg, vcells_agg, vlen3, Nat.reduceEqDiff, Nat.reduceLeDiff, <- hs1, hld, hld2, c2, e1, pure_mm, x2, m0, and_self, Int.toNat_natCast, Nat.mul_one, <- hhd, <- hs2]
 refine hcall ?_
 simp -implicitDefEqProofs only [go_sem, Nat.reduceEqDiff, Nat.reduceLeDiff, hld, hld2, c2]
 have hne : ∀ t, has t -> t ≠ .heap := fun t ht e => hh (e ▸ ht)
 refine ⟨A3, s3, c3, rfl, R3.congr ?_ (fun _ _ => rfl) (fun _ _ => Nat.le_refl _) (fun _ _ _ _ => rfl), fun t ht => ?_, M⟩
 ·rintro t (h | h)
  ·exact .inl (.inl h)
  ·exact .inr h
 ·obtain ⟨a, b, c⟩ := hold t (.inl ht)
  rw [upd_ne (hne t ht)] at a b c
  exact ⟨a, b, c⟩
end
end Go.Proofs.YtlgmpheammbacaaGreatDoor
set_option maxRecDepth 1000000
namespace Go.Proofs.YtlgmpheammbacaaGreatDoor
open AM Go
noncomputable section
set_option linter.unusedVariables false
set_option linter.unusedSimpArgs false
attribute [local irreducible] T.get T.set
variable {σ : St} {A : Slot -> Nat} {has : Slot -> Prop} {size : Slot -> Nat} {cell : Slot -> Nat -> V}
theorem r_slabNew {p : Option (Nat × Nat)} (h : RepF σ has A size cell) (hno : ¬ has .slab) :
  Runs G0 [] 59 [.ptr p] σ fun v s => ∃ a, v = .ptr (some (a, 0)) /\ RepF s (fun t => has t \/ t = .slab) (upd A .slab a) (upd size .slab 9) (upd cell .slab fun i => if i = 0 then .ptr p else .int .i64 (-1)) := by
 refine runs_body g59 rfl ?_
 have e0 : fillP [V.ptr none, .int .i64 0, .int .i64 0, .int .i64 0, .int .i64 0, .int .i64 0, .int .i64 0, .int .i64 0, .int .i64 0] [(0, 1, .ptr p)] = some [V.ptr p, .int .i64 0, .int .i64 0, .int .i64 0, .int .i64 0, .int .i64 0, .int .i64 0, .int .i64 0, .int .i64 0] := rfl
 obtain ⟨L, hL⟩ : ∃ L, L = [V.ptr p, .int .i64 0, .int .i64 0, .int .i64 0, .int .i64 0, .int .i64 0, .int .i64 0, .int .i64 0, .int .i64 0] := ⟨_, rfl⟩
 have l9 : L.length = 9 := by rw [hL]; rfl
 rw [<- hL] at e0
 obtain ⟨a, ha⟩ : ∃ a, a = σ.next := ⟨_, rfl⟩
 obtain ⟨σ1, hs1⟩ : ∃ s, s = σ.newCells L := ⟨_, rfl⟩
 have R1 := h.new (s0 := .slab) hno (n := 9) (z := []) (t := ofList L) (f := lst L) (fun i hi => by
  have := cellOf_ofList L i
  rw [l9] at this
  rw [this]; simp [lst, l9, hi])
 have R1' : RepF σ1 (fun t => has t \/ t = .slab) (upd A .slab a) (upd size .slab 9) (upd cell .slab (lst L)) := by
  rw [hs1, ha]; unfold St.newCells; rw [l9]; exact R1
 simp -implicitDefEqProofs only [go_sem, Nat.reduceEqDiff, evalParts, e0, vcells_agg, l9, <- ha, <- hs1]
 refine aw_loop (fun (n : Nat) (fr : AM.Fr) (s : St) => fr.defers = [] /\ fr.tmps.get 3 = some (.ptr (some (a, 0))) /\ ∃ i : Nat, fr.tmps.get 8 = some (.int .i64 i) /\ i + n = 8 ∧
  RepF s (fun t => has t \/ t = .slab) (upd A .slab a) (upd size .slab 9) (upd cell .slab fun j => if j = 0 then .ptr p else if j <= i then .int .i64 (-1) else .int .i64 0)) ?_ 8 ?_
 ·rintro n ⟨tm, ds⟩ s ⟨hd, t3, i, t8, hi, R⟩
  simp only at hd t3 t8
  subst hd
  by_cases c : i < 8
  ·have d1 : (i : Int) < 8 := by omega
   have d2 : (0 : Int) <= (i : Int) /\ (i : Int) < ((8 : Nat) : Int) := by omega
   obtain ⟨s1, hst, R1, n1⟩ := R.store (s := .slab) (.inr rfl) (off := 1 + i) (vs := [.int .i64 (-1)]) (by rw [upd_same]; simp; omega) rfl
   rw [upd_same] at hst
   have e9 : IntKind.i64.wrap ((i : Int) + 1) = ((i + 1 : Nat) : Int) := i64_add (a := i) (b := 1) (by omega)
   simp -implicitDefEqProofs only [go_sem, Nat.reduceEqDiff, Nat.reduceLeDiff, t3, t8, d1, d2, and_self, decide_true, Int.toNat_natCast, Nat.mul_one, vcells_int, List.length_cons, List.length_nil, hst, e9]
   refine ⟨n - 1, by omega, i + 1, rfl, by omega, R1.congr (fun _ h => h) (fun _ _ => rfl) (fun _ _ => Nat.le_refl _) fun t ht j hj => ?_⟩
   by_cases ct : t = .slab
   ·subst ct
    rw [upd_same] at hj
    rw [upd_same, upd_same, upd_same]
    unfold over
    show (if 1 + i <= j /\ j < 1 + i + 1 then [V.int .i64 (-1)].getD (j - (1 + i)) V.undef else if j = 0 then V.ptr p else if j <= i then .int .i64 (-1) else .int .i64 0) = if j = 0 then V.ptr p else if j <= i + 1 then .int .i64 (-1) else .int .i64 0
    by_cases c0 : j = 0
    ·subst c0; rw [if_neg (by omega), if_pos rfl, if_pos rfl]
    ·rw [if_neg c0, if_neg c0]
     by_cases c1 : j = 1 + i
     ·subst c1; rw [if_pos (by omega), if_pos (by omega), Nat.sub_self]; rfl
     ·rw [if_neg (by omega)]
      by_cases c2 : j <= i
      ·rw [if_pos c2, if_pos (by omega)]
      ·rw [if_neg c2, if_neg (by omega)]
   ·rw [upd_ne ct, upd_ne ct, upd_ne ct]
  ·have d1 : ¬ ((i : Int) < 8) := by omega
   simp -implicitDefEqProofs only [go_sem, Nat.reduceEqDiff, t3, t8, d1, decide_false]
   refine ⟨a, rfl, R.congr (fun _ h => h) (fun _ _ => rfl) (fun _ _ => Nat.le_refl _) fun t ht j hj => ?_⟩
   by_cases ct : t = .slab
   ·subst ct
    rw [upd_same] at hj
    rw [upd_same, upd_same]
    by_cases c0 : j = 0
    ·rw [if_pos c0, if_pos c0]
    ·rw [if_neg c0, if_neg c0, if_pos (by omega)]
   ·rw [upd_ne ct, upd_ne ct]
 ·simp -implicitDefEqProofs only [go_sem, Nat.reduceEqDiff]
  refine ⟨0, rfl, rfl, R1'.congr (fun _ h => h) (fun _ _ => rfl) (fun _ _ => Nat.le_refl _) fun t ht j hj => ?_⟩
  by_cases ct : t = .slab
  ·subst ct
   rw [upd_same] at hj
   rw [upd_same, upd_same, hL]
   rcases (by omega : j = 0 \/ j = 1 \/ j = 2 \/ j = 3 \/ j = 4 \/ j = 5 \/ j = 6 \/ j = 7 \/ j = 8) with rfl | rfl | rfl | rfl | rfl | rfl | rfl | rfl | rfl <;> rfl
  ·rw [upd_ne ct, upd_ne ct]
def heap0 (b l o : Nat) : Heap := ⟨b, l, o, 0, 0, fun _ => 0, fun _ => zeroP, fun _ _ => 0, fun _ => 0, fun _ => -1, false, false⟩
theorem ok_heap0 {b l o : Nat} (h : MayC b l o) : (heap0 b l o).OK := by
 have h1 := h.o8; have h2 := h.l1; have h3 := h.l64; have h4 := h.pages; have h5 := h.b0; have h6 := h.al; have h7 := h.top
 simp only [Int.toNat_natCast] at h4 h6 h7
 have hc1 : ((l * 2 ^ o : Nat) : Int) = (l : Int) * 2 ^ o := by simp
 have hc2 : ((4096 * 2 ^ o : Nat) : Int) = 4096 * 2 ^ o := by simp
 have hc3 : ((4096 * 2 ^ o * l : Nat) : Int) = 4096 * 2 ^ o * (l : Int) := by simp
 rw [<- hc1] at h4
 rw [<- hc2] at h6
 rw [<- hc3] at h7
 refine ⟨?_, ?_, ?_, ?_, ?_, ?_, ?_, Nat.zero_le _, fun _ => ?_, fun _ => ?_, fun _ _ => ?_, fun h => absurd h (Nat.lt_irrefl _), fun h => absurd h (Nat.lt_irrefl _)⟩
 ·show 0 < b; omega
 ·show o <= 8; omega
 ·show 1 <= l; omega
 ·show l <= 64; omega
 ·show l * 2 ^ o <= 1024; omega
 ·show b + 4096 * 2 ^ o * l <= 9223372036854775808; omega
 ·show b % (4096 * 2 ^ o) = 0; omega
 ·show 0 < 256; omega
 ·show 0 < 18446744073709551616; omega
 ·show 0 < 18446744073709551616; omega
theorem inv_heap0 {b l o : Nat} (h : MayC b l o) : Inv (heap0 b l o) (fun _ => []) (fun _ => []) (fun _ => []) (fun _ => False) where
  ok := ok_heap0 h
  pg x hx := by have : (heap0 b l o).np = 0 := by { show 0 * _ = 0; omega }
                omega
  fmem k hk p := by
    have : (heap0 b l o).np = 0 := by show 0 * _ = 0; omega
    rw [this]; simp
  fnd k hk := by simp
  flk k hk := ⟨rfl, trivial⟩
  bits k hk i hi := by
    have h0 : (heap0 b l o).np = 0 := by show 0 * _ = 0; omega
    have : (heap0 b l o).nw k = 0 := by unfold Heap.nw Heap.npair; rw [h0]; simp
    omega
  sl x hx := by have : (heap0 b l o).np = 0 := by { show 0 * _ = 0; omega }
                omega
  pmem c hc x := by
    have : (heap0 b l o).np = 0 := by show 0 * _ = 0; omega
    rw [this]; simp
  pnd c hc := by simp
  plk c hc := ⟨rfl, trivial⟩
theorem r_regionNew {b l o : Int} (hb0 : 0 <= b) (hb : b < 18446744073709551616) (h : RepF σ (fun t => t = .pages) A size cell) :
  Runs G0 [] 58 [cfg b l o] σ fun v s => (¬ MayC b l o -> v = .tuple [.ptr none, .int .i64 1] /\ Grow σ s) /\ (MayC b l o -> ∃ A' size' cell', v = .tuple [.ptr (some (A' .pool, 0)), .int .i64 0] /\ A' .pages = A .pages ∧
   RepF s (fun t => t = .pages \/ t = .pool \/ t = .space \/ mapHas o.toNat t \/ budHas (o.toNat + 1) t) A' size' cell' /\ size' .pages = size .pages /\ cell' .pages = cell .pages ∧
   size' .pool = 3 /\ (∀ i, i < 3 -> cell' .pool i = lst [.ptr (some (A' .space, 0)), .ptr (some (A' .map, 0)), .ptr (some (A' .buddy, 0))] i) ∧
   size' .space = 5 /\ (∀ i, i < 5 -> cell' .space i = lst [.int .u64 b, .int .i64 l, .int .i64 o, .int .u64 (shlI .u64 4096 o), .slice none 0 0] i) ∧
   MapF o.toNat o.toNat A' size' cell' /\ BudF b l o.toNat (some (A' .space, 0)) (some (A' .map, 0)) (o.toNat + 1) A' size' cell') := by
 refine runs_body g58 rfl ?_
 obtain ⟨q, hq⟩ : ∃ q, q = σ.next := ⟨_, rfl⟩
 obtain ⟨σ1, hs1⟩ : ∃ s, s = σ.newCells [.int .u64 b, .int .i64 l, .int .i64 o] := ⟨_, rfl⟩
 have R1 := h.new (s0 := .parts) (by simp) (n := 3) (z := []) (t := ofList [.int .u64 b, .int .i64 l, .int .i64 o]) (f := lst [.int .u64 b, .int .i64 l, .int .i64 o]) (fun i hi => by
  have := cellOf_ofList [V.int .u64 b, .int .i64 l, .int .i64 o] i
  rw [vlen3] at this
  rw [this]
  rcases (by omega : i = 0 \/ i = 1 \/ i = 2) with rfl | rfl | rfl <;> rfl)
 have R1' : RepF σ1 (fun t => t = .pages \/ t = .parts) (upd A .parts q) (upd size .parts 3) (upd cell .parts (lst [.int .u64 b, .int .i64 l, .int .i64 o])) := by rw [hs1, hq]; exact R1
 have rd : ∀ {τ : St} {hs : Slot -> Prop} {B : Slot -> Nat} {sz : Slot -> Nat} {cl : Slot -> Nat -> V}, RepF τ hs B sz cl -> hs .parts -> B .parts = q -> sz .parts = 3 -> cl .parts = lst [.int .u64 b, .int .i64 l, .int .i64 o] →
   τ.load q 0 3 = some [.int .u64 b, .int .i64 l, .int .i64 o] /\ τ.cell q 2 = some (.int .i64 o) := by
  intro τ hs B sz cl R a1 a2 a3 a4
  have hr := R.row .parts a1
  rw [a2, a3, a4] at hr
  exact ⟨by rw [hr.load (by omega)]; rfl, hr.cell (by omega)⟩
 obtain ⟨hld1, hc1⟩ := rd R1' (.inr rfl) upd_same upd_same upd_same
 obtain ⟨v, σ2, ⟨g2, w2, m1, m2⟩, hr2⟩ := r_memNew (l := l) (o := o) hb0 hb R1'.gw
 have hr2' : Ret G0 [] 117 [.agg [.int .u64 b, .int .i64 l, .int .i64 o]] σ1 v σ2 := hr2
 simp -implicitDefEqProofs only [go_sem, cfg, vcells_agg, vlen3, Nat.reduceEqDiff, <- hs1, <- hq, hld1]
 refine runs_ret hr2' ?_
 by_cases hm : MayC b l o
 ·obtain ⟨s, rfl, hsn, Ls⟩ := m1 hm
  obtain ⟨k, rfl⟩ : ∃ k : Nat, o = (k : Int) := ⟨o.toNat, by have := hm.o0; omega⟩
  have hk : k <= 8 := by have := hm.o8; omega
  simp only [Int.toNat_natCast]
  have R2 := (R1'.grow g2 w2).add (s0 := .space) (by simp) Ls (fun t ht => by have := R1'.is_lt ht; omega)
  obtain ⟨hld2, hc2⟩ := rd R2 (.inl (.inr rfl)) (by rw [upd_ne (by simp), upd_same]) (by rw [upd_ne (by simp), upd_same]) (by rw [upd_ne (by simp), upd_same])
  obtain ⟨v, σ3, ⟨A3, s3, c3, rfl, R3, hold3, M⟩, hr3⟩ := r_mapNew hk R2 (fun i t ht => by
   rintro ((rfl | rfl) | rfl) <;> rcases ht with h | ⟨h, _⟩ | ⟨j, _, h | h⟩ <;> cases h)
  obtain ⟨a3, b3, d3⟩ := hold3 .parts (.inl (.inr rfl))
  rw [upd_ne (by simp), upd_same] at a3 b3 d3
  obtain ⟨hld3, hc3⟩ := rd R3 (.inl (.inl (.inr rfl))) a3 b3 d3
  obtain ⟨aS, bS, dS⟩ := hold3 .space (.inr rfl)
  rw [upd_same] at aS bS dS
  obtain ⟨v, σ4, ⟨A4, s4, c4, rfl, R4, hold4, B⟩, hr4⟩ := r_buddyNew (b := b) (l := l) (ps := some (s, 0)) (pm := some (A3 .map, 0)) hk R3 (by
   rintro (((h | h) | h) | h | ⟨h, _⟩ | ⟨j, _, h | h⟩) <;> cases h) (fun i t ht => by
   rcases ht with rfl | ⟨rfl, _⟩ | ⟨j, _, rfl⟩ <;> (rintro (((h | h) | h) | h | ⟨h, _⟩ | ⟨j, _, h | h⟩) <;> cases h))
  have hr4' : Ret G0 [] 119 [.agg [.int .u64 b, .int .i64 l, .int .i64 k], .ptr (some (s, 0)), .ptr (some (A3 .map, 0))] σ3 (.ptr (some (A4 .buddy, 0))) σ4 := hr4
  have hmp : ∀ t, mapHas k t -> A4 t = A3 t /\ s4 t = s3 t /\ c4 t = c3 t := fun t ht => hold4 t (.inr ht)
  obtain ⟨am, _, _⟩ := hmp .map (.inl rfl)
  obtain ⟨asp, bsp, dsp⟩ := hold4 .space (.inl (.inr rfl))
  rw [aS] at asp; rw [bS] at bsp; rw [dS] at dsp
  have hno : ∀ t, t = Slot.pool -> ¬ (((((t = .pages \/ t = .parts) \/ t = .space) \/ mapHas k t) \/ budHas (k + 1) t)) := by
   rintro t rfl
   rintro ((((h | h) | h) | h | ⟨h, _⟩ | ⟨j, _, h | h⟩) | h | ⟨h, _⟩ | ⟨j, _, h⟩) <;> cases h
  have e1 : fillP [V.ptr none, .ptr none, .ptr none] [(0, 1, .ptr (some (s, 0))), (1, 1, .ptr (some (A3 .map, 0))), (2, 1, .ptr (some (A4 .buddy, 0)))] = some [V.ptr (some (s, 0)), .ptr (some (A3 .map, 0)), .ptr (some (A4 .buddy, 0))] := rfl
  have e2 : fillP [V.ptr none, .ptr none, .ptr none] [(0, 3, .agg [V.ptr (some (s, 0)), .ptr (some (A3 .map, 0)), .ptr (some (A4 .buddy, 0))])] = some [V.ptr (some (s, 0)), .ptr (some (A3 .map, 0)), .ptr (some (A4 .buddy, 0))] := rfl
  have R5 := R4.new (s0 := .pool) (hno .pool rfl) (n := 3) (z := []) (t := ofList [V.ptr (some (s, 0)), .ptr (some (A3 .map, 0)), .ptr (some (A4 .buddy, 0))]) (f := lst [V.ptr (some (s, 0)), .ptr (some (A3 .map, 0)), .ptr (some (A4 .buddy, 0))]) (fun i hi => by
   have := cellOf_ofList [V.ptr (some (s, 0)), .ptr (some (A3 .map, 0)), .ptr (some (A4 .buddy, 0))] i
   rw [vlen3] at this
   rw [this]
   rcases (by omega : i = 0 \/ i = 1 \/ i = 2) with rfl | rfl | rfl <;> rfl)
  simp -implicitDefEqProofs only [go_sem, Nat.reduceEqDiff, Nat.reduceLeDiff, ne_eq, not_true_eq_false, decide_false, hc2]
  refine runs_ret hr3 ?_
  simp -implicitDefEqProofs only [go_sem, Nat.reduceEqDiff, Nat.reduceLeDiff, hld3]
  refine runs_ret hr4' ?_
  simp -implicitDefEqProofs only [go_sem, Nat.reduceEqDiff, Nat.reduceLeDiff, evalParts, e1, e2, vcells_agg, vlen3]
  refine ⟨fun hn => (hn hm).elim, fun _ => ⟨_, _, _, by rw [upd_same], ?_, R5.congr ?_ (fun _ _ => rfl) (fun _ _ => Nat.le_refl _) (fun _ _ _ _ => rfl), ?_, ?_, upd_same, ?_, ?_, ?_, ?_, ?_⟩⟩
  ·rw [upd_ne (by simp), (hold4 .pages (.inl (.inl (.inl rfl)))).1, (hold3 .pages (.inl (.inl rfl))).1, upd_ne (by simp), upd_ne (by simp)]
  ·rintro t (h | h | h | h | h)
   ·exact .inl (.inl (.inl (.inl (.inl h))))
   ·exact .inr h
   ·exact .inl (.inl (.inl (.inr h)))
   ·exact .inl (.inl (.inr h))
   ·exact .inl (.inr h)
  ·rw [upd_ne (by simp), (hold4 .pages (.inl (.inl (.inl rfl)))).2.1, (hold3 .pages (.inl (.inl rfl))).2.1, upd_ne (by simp), upd_ne (by simp)]
  ·rw [upd_ne (by simp), (hold4 .pages (.inl (.inl (.inl rfl)))).2.2, (hold3 .pages (.inl (.inl rfl))).2.2, upd_ne (by simp), upd_ne (by simp)]
  ·intro i hi
   rw [upd_same, upd_ne (by simp), upd_ne (by simp), upd_ne (by simp), asp, am]
  ·rw [upd_ne (by simp), bsp]
  ·intro i hi; rw [upd_ne (by simp), dsp]
  ·have hAp : upd A4 .pool σ4.next .pairs = A4 .pairs := upd_ne (by simp)
   refine ⟨?_, fun j hj => ?_, fun h0 => ?_, fun j hj => ?_, fun j hj => ?_, fun j hj m hm' => ?_, fun j hj => ?_⟩
   ·rw [upd_ne (by simp), (hmp .map (.inl rfl)).2.1]; exact M.sm
   ·rw [upd_ne (by simp), (hmp .map (.inl rfl)).2.2]
    have : ptrRow (upd A4 .pool σ4.next) .pairs k = ptrRow A3 .pairs k := by
     unfold ptrRow
     by_cases c : k = 0
     ·rw [if_pos c, if_pos c]
     ·rw [if_neg c, if_neg c, hAp, (hmp .pairs (.inr (.inl ⟨rfl, by omega⟩))).1]
    rw [this]; exact M.cm j hj
   ·rw [upd_ne (by simp), (hmp .pairs (.inr (.inl ⟨rfl, h0⟩))).2.1]; exact M.sp h0
   ·rw [upd_ne (by simp), upd_ne (by simp), (hmp .pairs (.inr (.inl ⟨rfl, by omega⟩))).2.2, (hmp (.set j) (.inr (.inr ⟨j, hj, .inl rfl⟩))).1]; exact M.cp j hj
   ·rw [upd_ne (by simp), (hmp (.set j) (.inr (.inr ⟨j, hj, .inl rfl⟩))).2.1]; exact M.ss j hj
   ·rw [upd_ne (by simp), upd_ne (by simp), (hmp (.set j) (.inr (.inr ⟨j, hj, .inl rfl⟩))).2.2, (hmp (.words j) (.inr (.inr ⟨j, hj, .inr rfl⟩))).1]; exact M.cs j hj m hm'
   ·rw [upd_ne (by simp), (hmp (.words j) (.inr (.inr ⟨j, hj, .inr rfl⟩))).2.1]; exact M.sw j hj
  ·have hrow : ptrRow (upd A4 .pool σ4.next) .lists (k + 1) = ptrRow A4 .lists (k + 1) := by unfold ptrRow; rw [upd_ne (by simp)]
   rw [upd_ne (by simp), upd_ne (by simp), asp, am]
   refine ⟨?_, fun j hj => ?_, fun h0 => ?_, fun j hj => ?_, fun j hj => ?_, fun j hj m hm' => ?_⟩
   ·rw [upd_ne (by simp)]; exact B.sb
   ·rw [upd_ne (by simp), hrow]; exact B.cb j hj
   ·rw [upd_ne (by simp)]; exact B.sl h0
   ·rw [upd_ne (by simp), upd_ne (by simp)]; exact B.cl j hj
   ·rw [upd_ne (by simp)]; exact B.ss j hj
   ·rw [upd_ne (by simp)]; exact B.cs j hj m hm'
 ·obtain rfl := m2 hm
  have d1 : (1 : Int) ≠ 0 := by decide
  simp -implicitDefEqProofs only [go_sem, Nat.reduceEqDiff, d1, ne_eq, not_false_eq_true, decide_true]
  have g1 : Grow σ σ1 := by rw [hs1]; exact Grow.new _ _
  exact ⟨fun _ => g1.trans g2, fun h => (hm h).elim⟩
end
end Go.Proofs.YtlgmpheammbacaaGreatDoor
set_option maxRecDepth 1000000
namespace Go.Proofs.YtlgmpheammbacaaGreatDoor
open AM Go
noncomputable section
set_option linter.unusedVariables false
set_option linter.unusedSimpArgs false
attribute [local irreducible] T.get T.set
variable {σ σ' : St} {A : Slot -> Nat} {H : Heap}
theorem r_mallocNew0 {b l o : Int} (hb0 : 0 <= b) (hb : b < 18446744073709551616) (w : GW σ) (hw : Wid σ) :
  Runs G0 [] 16 [cfg b l o] σ fun v s => (¬ MayC b l o -> v = .tuple [.ptr none, .int .i64 1] /\ Grow σ s) /\ (MayC b l o -> ∃ A, v = .tuple [.ptr (some (A .heap, 0)), .int .i64 0] /\ HRep s A (heap0 b.toNat l.toNat o.toNat)) := by
 refine runs_body g16 rfl ?_
 obtain ⟨q, hq⟩ : ∃ q, q = σ.next := ⟨_, rfl⟩
 obtain ⟨σ1, hs1⟩ : ∃ s, s = σ.newCells [.int .u64 b, .int .i64 l, .int .i64 o] := ⟨_, rfl⟩
 have R0 := RepF.none w hw (fun _ => 0) (fun _ => 0) (fun _ _ => V.undef)
 have R1 := R0.new (s0 := .pages) (fun h => h) (n := 3) (z := []) (t := ofList [.int .u64 b, .int .i64 l, .int .i64 o]) (f := lst [.int .u64 b, .int .i64 l, .int .i64 o]) (fun i hi => by
  have := cellOf_ofList [V.int .u64 b, .int .i64 l, .int .i64 o] i
  rw [vlen3] at this
  rw [this]
  rcases (by omega : i = 0 \/ i = 1 \/ i = 2) with rfl | rfl | rfl <;> rfl)
 have R1' : RepF σ1 (fun t => t = .pages) (upd (fun _ => 0) .pages q) (upd (fun _ => 0) .pages 3) (upd (fun _ _ => V.undef) .pages (lst [.int .u64 b, .int .i64 l, .int .i64 o])) := by
  rw [hs1, hq]; exact R1.congr (fun _ h => .inr h) (fun _ _ => rfl) (fun _ _ => Nat.le_refl _) (fun _ _ _ _ => rfl)
 have rd : ∀ {τ : St} {hs : Slot -> Prop} {B : Slot -> Nat} {sz : Slot -> Nat} {cl : Slot -> Nat -> V}, RepF τ hs B sz cl -> hs .pages -> B .pages = q -> sz .pages = 3 -> cl .pages = lst [.int .u64 b, .int .i64 l, .int .i64 o] →
   τ.load q 0 3 = some [.int .u64 b, .int .i64 l, .int .i64 o] := by
  intro τ hs B sz cl R a1 a2 a3 a4
  have hr := R.row .pages a1
  rw [a2, a3, a4] at hr
  rw [hr.load (by omega)]; rfl
 have hld1 := rd R1' rfl upd_same upd_same upd_same
 obtain ⟨v, σ2, ⟨m1, m2⟩, hr2⟩ := r_regionNew (l := l) (o := o) hb0 hb R1'
 have hr2' : Ret G0 [] 58 [.agg [.int .u64 b, .int .i64 l, .int .i64 o]] σ1 v σ2 := hr2
 simp -implicitDefEqProofs only [go_sem, cfg, vcells_agg, vlen3, Nat.reduceEqDiff, <- hs1, <- hq, hld1]
 refine runs_ret hr2' ?_
 by_cases hm : MayC b l o
 ·obtain ⟨A2, s2, c2, rfl, ap, R2, sp, cp, pl3, pc, sp5, sc, M, B⟩ := m2 hm
  rw [upd_same] at ap sp cp
  have hld2 := rd R2 (.inl rfl) ap sp cp
  obtain ⟨k, rfl⟩ : ∃ k : Nat, o = (k : Int) := ⟨o.toNat, by have := hm.o0; omega⟩
  obtain ⟨n, rfl⟩ : ∃ n : Nat, b = (n : Int) := ⟨b.toNat, by omega⟩
  obtain ⟨m, rfl⟩ : ∃ m : Nat, l = (m : Int) := ⟨l.toNat, by have := hm.l1; omega⟩
  simp only [Int.toNat_natCast] at R2 M B ⊢
  have hk : k <= 8 := by have := hm.o8; omega
  have hns : ¬ ((Slot.slab) = .pages \/ (Slot.slab) = .pool \/ (Slot.slab) = .space \/ mapHas k .slab \/ budHas (k + 1) .slab) := by
   rintro (h | h | h | (h | ⟨h, _⟩ | ⟨j, _, h | h⟩) | h | ⟨h, _⟩ | ⟨j, _, h⟩) <;> cases h
  obtain ⟨v, σ3, ⟨a, rfl, R3⟩, hr3⟩ := r_slabNew (p := some (A2 .pool, 0)) R2 hns
  have hld3 := rd R3 (.inl (.inl rfl)) (by rw [upd_ne (by simp)]; exact ap) (by rw [upd_ne (by simp)]; exact sp) (by rw [upd_ne (by simp)]; exact cp)
  have e1 : fillP [V.int .i32 0, .int .u32 0, .int .u64 0, .int .i64 0, .int .i64 0, .ptr none, .ptr none] [(2, 3, .agg [V.int .u64 n, .int .i64 m, .int .i64 k]), (5, 1, .ptr (some (A2 .pool, 0))), (6, 1, .ptr (some (a, 0)))] =
   some [V.int .i32 0, .int .u32 0, .int .u64 n, .int .i64 m, .int .i64 k, .ptr (some (A2 .pool, 0)), .ptr (some (a, 0))] := rfl
  have l7 : [V.int .i32 0, .int .u32 0, .int .u64 n, .int .i64 m, .int .i64 k, .ptr (some (A2 .pool, 0)), .ptr (some (a, 0))].length = 7 := rfl
  have hnh : ¬ ((Slot.heap = .pages \/ Slot.heap = .pool \/ Slot.heap = .space \/ mapHas k .heap \/ budHas (k + 1) .heap) \/ Slot.heap = .slab) := by
   rintro ((h | h | h | (h | ⟨h, _⟩ | ⟨j, _, h | h⟩) | h | ⟨h, _⟩ | ⟨j, _, h⟩) | h) <;> cases h
  have R4 := R3.new (s0 := .heap) hnh (n := 7) (z := []) (t := ofList [V.int .i32 0, .int .u32 0, .int .u64 n, .int .i64 m, .int .i64 k, .ptr (some (A2 .pool, 0)), .ptr (some (a, 0))]) (f := lst [V.int .i32 0, .int .u32 0, .int .u64 n, .int .i64 m, .int .i64 k, .ptr (some (A2 .pool, 0)), .ptr (some (a, 0))]) (fun i hi => by
   have := cellOf_ofList [V.int .i32 0, .int .u32 0, .int .u64 n, .int .i64 m, .int .i64 k, .ptr (some (A2 .pool, 0)), .ptr (some (a, 0))] i
   rw [l7] at this
   rw [this]
   rcases (by omega : i = 0 \/ i = 1 \/ i = 2 \/ i = 3 \/ i = 4 \/ i = 5 \/ i = 6) with rfl | rfl | rfl | rfl | rfl | rfl | rfl <;> rfl)
  simp -implicitDefEqProofs only [go_sem, Nat.reduceEqDiff, Nat.reduceLeDiff, ne_eq, not_true_eq_false, decide_false, hld2]
  refine runs_ret hr3 ?_
  simp -implicitDefEqProofs only [go_sem, Nat.reduceEqDiff, Nat.reduceLeDiff, hld2, hld3, evalParts, e1, vcells_agg, l7]
  refine ⟨fun hn => (hn hm).elim, fun _ => ⟨upd (upd A2 .slab a) .heap σ3.next, by rw [upd_same], ?_⟩⟩
  have hrz : shlI .u64 4096 (k : Int) = ((4096 * 2 ^ k : Nat) : Int) := by
   have hp : 2 ^ k <= 2 ^ 8 := Nat.pow_le_pow_right (by omega) hk
   exact u64_shl (a := 4096) (by omega) (by omega)
  have hz0 : ∀ j, (heap0 n m k).npair j = 0 /\ (heap0 n m k).nw j = 0 := by
   intro j
   have h0 : (heap0 n m k).np = 0 := by show 0 * _ = 0; omega
   have h1 : (heap0 n m k).npair j = 0 := by unfold Heap.npair; rw [h0]; simp
   exact ⟨h1, by unfold Heap.nw; rw [h1]⟩
  refine R4.hrep (fun t ht => ?_) (fun t ht => ?_) (fun t ht i hi => ?_)
  ·cases t with
   |heap => exact .inr rfl
   |slab => exact .inl (.inr rfl)
   |pool => exact .inl (.inl (.inr (.inl rfl)))
   |space => exact .inl (.inl (.inr (.inr (.inl rfl))))
   |map => exact .inl (.inl (.inr (.inr (.inr (.inl (.inl rfl))))))
   |pairs => exact .inl (.inl (.inr (.inr (.inr (.inl (.inr (.inl ⟨rfl, ht⟩)))))))
   |set j => exact .inl (.inl (.inr (.inr (.inr (.inl (.inr (.inr ⟨j, ht, .inl rfl⟩)))))))
   |words j => exact .inl (.inl (.inr (.inr (.inr (.inl (.inr (.inr ⟨j, ht, .inr rfl⟩)))))))
   |buddy => exact .inl (.inl (.inr (.inr (.inr (.inr (.inl rfl))))))
   |lists => exact .inl (.inl (.inr (.inr (.inr (.inr (.inr (.inl ⟨rfl, by omega⟩)))))))
   |list j => exact .inl (.inl (.inr (.inr (.inr (.inr (.inr (.inr ⟨j, Nat.lt_succ_of_le ht, rfl⟩)))))))
   |parts => cases ht
   |pages => cases ht
   |reg r => exact absurd ht (Nat.not_lt_zero r)
  ·cases t with
   |heap => rw [upd_same]; exact Nat.le_refl _
   |slab => rw [upd_ne (by simp), upd_same]; exact Nat.le_refl _
   |pool => rw [upd_ne (by simp), upd_ne (by simp), pl3]; exact Nat.le_refl _
   |space => rw [upd_ne (by simp), upd_ne (by simp), sp5]; exact Nat.le_refl _
   |map => rw [upd_ne (by simp), upd_ne (by simp), M.sm]; exact Nat.le_refl _
   |pairs => rw [upd_ne (by simp), upd_ne (by simp), M.sp ht]; exact Nat.le_refl _
   |set j => rw [upd_ne (by simp), upd_ne (by simp), M.ss j ht]; exact Nat.le_refl _
   |words j => rw [upd_ne (by simp), upd_ne (by simp), M.sw j ht]; show (heap0 n m k).nw j <= 0; rw [(hz0 j).2]; exact Nat.le_refl _
   |buddy => rw [upd_ne (by simp), upd_ne (by simp), B.sb]; exact Nat.le_refl _
   |lists => rw [upd_ne (by simp), upd_ne (by simp), B.sl (by omega)]; exact Nat.le_refl _
   |list j => rw [upd_ne (by simp), upd_ne (by simp), B.ss j (Nat.lt_succ_of_le ht)]; exact Nat.le_refl _
   |parts => cases ht
   |pages => cases ht
   |reg r => exact absurd ht (Nat.not_lt_zero r)
  ·cases t with
   |heap =>
    rw [upd_same]
    simp only [Heap.cell]
    rw [upd_ne (show Slot.pool ≠ .heap by simp), upd_ne (show Slot.pool ≠ .slab by simp), upd_ne (show Slot.slab ≠ .heap by simp), upd_same]; rfl
   |slab =>
    rw [upd_ne (by simp), upd_same]
    simp only [Heap.cell]
    rw [upd_ne (show Slot.pool ≠ .heap by simp), upd_ne (show Slot.pool ≠ .slab by simp)]; rfl
   |pool =>
    rw [upd_ne (by simp), upd_ne (by simp), pc i hi]
    simp only [Heap.cell]
    rw [upd_ne (by simp), upd_ne (by simp), upd_ne (by simp), upd_ne (by simp), upd_ne (by simp), upd_ne (by simp)]
   |space =>
    rw [upd_ne (by simp), upd_ne (by simp), sc i hi, hrz]; rfl
   |map =>
    rw [upd_ne (by simp), upd_ne (by simp), M.cm i hi]
    have e : ptrRow A2 .pairs k = (heap0 n m k).pairsV (upd (upd A2 .slab a) .heap σ3.next) := by
     unfold ptrRow Heap.pairsV
     show _ = if 0 < k then V.slice (some (upd (upd A2 .slab a) .heap σ3.next .pairs, 0)) k 1 else .slice none 0 0
     rw [upd_ne (by simp), upd_ne (by simp)]
     by_cases c : k = 0
     ·rw [if_pos c, if_neg (by omega)]
     ·rw [if_neg c, if_pos (by omega)]
    rw [e]; rfl
   |pairs =>
    rw [upd_ne (by simp), upd_ne (by simp), M.cp i hi]
    simp only [Heap.cell]
    rw [upd_ne (by simp), upd_ne (by simp)]
   |set j =>
    rw [upd_ne (by simp), upd_ne (by simp), M.cs j ht i hi]
    simp only [Heap.cell, (hz0 j).1, (hz0 j).2]
    rw [upd_ne (by simp), upd_ne (by simp)]; rfl
   |words j =>
    have hi' : i < (heap0 n m k).nw j := hi
    rw [(hz0 j).2] at hi'; omega
   |buddy =>
    rw [upd_ne (by simp), upd_ne (by simp), B.cb i hi]
    simp only [Heap.cell]
    rw [upd_ne (by simp), upd_ne (by simp), upd_ne (by simp), upd_ne (by simp), upd_ne (by simp), upd_ne (by simp)]
    unfold ptrRow; rw [if_neg (by omega)]; rfl
   |lists =>
    rw [upd_ne (by simp), upd_ne (by simp), B.cl i hi]
    simp only [Heap.cell]
    rw [upd_ne (by simp), upd_ne (by simp)]
   |list j =>
    rw [upd_ne (by simp), upd_ne (by simp), B.cs j (Nat.lt_succ_of_le ht) i hi]
    simp only [Heap.cell]
    rw [upd_ne (by simp), upd_ne (by simp)]; rfl
   |parts => cases ht
   |pages => cases ht
   |reg r => exact absurd ht (Nat.not_lt_zero r)
 ·obtain ⟨rfl, g2⟩ := m1 hm
  have d1 : (1 : Int) ≠ 0 := by decide
  have g1 : Grow σ σ1 := by rw [hs1]; exact Grow.new _ _
  simp -implicitDefEqProofs only [go_sem, Nat.reduceEqDiff, d1, ne_eq, not_false_eq_true, decide_true]
  exact ⟨fun _ => g1.trans g2, fun h => (hm h).elim⟩
theorem gw_keep (gw : GW σ) (own : Nat -> Prop) : GW (σ.keep own) where
 pos := gw.pos
 fresh a ha := by
  by_cases h : own a
  ·rw [(σ.keep_get own a).1 h]; exact gw.fresh a ha
  ·exact (σ.keep_get own a).2 h
 zero := gw.zero
 lt := gw.lt
 grp g a o h1 h2 h3 := by
  by_cases h : own a
  ·rw [(σ.keep_get own a).1 h] at h2; exact gw.grp g a o h1 h2 h3
  ·rw [(σ.keep_get own a).2 h] at h2; cases h2
 mem a o h1 h2 := by
  by_cases h : own a
  ·rw [(σ.keep_get own a).1 h] at h1; exact gw.mem a o h1 h2
  ·rw [(σ.keep_get own a).2 h] at h1; cases h1
end
end Go.Proofs.YtlgmpheammbacaaGreatDoor
set_option maxRecDepth 1000000
namespace Go.Proofs.YtlgmpheammbacaaGreatDoor
open AM Go
noncomputable section
set_option linter.unusedVariables false
set_option linter.unusedSimpArgs false
attribute [local irreducible] T.get T.set
variable {σ : St} {A : Slot -> Nat} {H : Heap}
theorem r_blkS (hR : HRep σ A H) (ok : H.OK) {p c q y : Nat} (hp : p < H.np) (hkind : (H.page p).kind = 4) (hcls : (H.page p).cls = (c : Int)) (hc : c < 8) (hy : y < 4096) (hqy : q = y / (16 * 2 ^ c))
  (hwords : ∀ j, (H.page p).bw j < 18446744073709551616) :
  Runs G0 [] 132 [.ptr (some (A .heap, 0)), .int .u64 (H.addr p + y : Nat)] σ fun r σ' =>
   r = .tuple [.agg [.int .u64 (H.addr p + q * (16 * 2 ^ c) : Nat), .int .u64 (16 * 2 ^ c : Nat)], .bool (decide ((H.page p).bit q = 1))] /\ Grow σ σ' := by
 have hq : q < 256 / 2 ^ c := by
  obtain ⟨w1, w2, w3, w4, w5⟩ := w8 hc
  rw [hqy]
  refine Nat.div_lt_of_lt_mul ?_
  rw [w1]; exact hy
 refine runs_body g132 rfl ?_
 obtain ⟨w, hwd⟩ : ∃ w, w = 16 * 2 ^ c := ⟨_, rfl⟩
 obtain ⟨n, hnd⟩ : ∃ n, n = 256 / 2 ^ c := ⟨_, rfl⟩
 have hw8 := w8 hc
 rw [<- hwd, <- hnd] at hw8
 rw [<- hwd]
 rw [<- hwd] at hqy
 rw [<- hnd] at hq
 obtain ⟨w1, w2, w3, w4, w5⟩ := hw8
 have hqw : q * w + w <= 4096 := by
  have h : (q + 1) * w <= n * w := Nat.mul_le_mul_right _ hq
  rw [Nat.add_mul, Nat.mul_comm n, w1] at h; omega
 have hnp := np_le ok
 have ha2 : H.addr p + 4096 < 18446744073709551616 := by
  have := addr_lt ok (p := p + 1) hp
  unfold Heap.addr at *; omega
 have hba := base_al ok
 obtain ⟨o, ho⟩ : ∃ o, o = q * w := ⟨_, rfl⟩
 rw [<- ho] at hqw ⊢
 obtain ⟨a, had⟩ : ∃ a, a = H.addr p + o := ⟨_, rfl⟩
 obtain ⟨a0, ha0⟩ : ∃ a0, a0 = H.addr p + y := ⟨_, rfl⟩
 rw [<- had, <- ha0]
 have hwp : w ∣ H.addr p := by
  have h4096 : w ∣ 4096 := ⟨n, w1.symm⟩
  refine Nat.dvd_trans h4096 (Nat.dvd_of_mod_eq_zero ?_)
  unfold Heap.addr; omega
 have haa : a0 / w = a / w := by
  obtain ⟨m, hm⟩ := hwp
  rw [had, ha0, hm, ho, Nat.mul_add_div (by omega), Nat.mul_comm q, <- Nat.mul_add, Nat.mul_div_cancel_left _ (by omega), hqy]
 have haw : a / w * w = a := by
  refine Nat.div_mul_cancel ?_
  rw [had]
  refine Nat.dvd_add ?_ ⟨q, by rw [ho, Nat.mul_comm]⟩
  have h4096 : w ∣ 4096 := ⟨n, w1.symm⟩
  refine Nat.dvd_trans h4096 (Nat.dvd_of_mod_eq_zero ?_)
  unfold Heap.addr; omega
 have hrem : a % 4096 = o := by rw [had]; unfold Heap.addr; omega
 have g1 := Grow.new σ (.cells false 0 2 [.int .u64 0, .int .u64 0] .nil)
 have R1 := hR.new (.cells false 0 2 [.int .u64 0, .int .u64 0] .nil) rfl
 have L1 := Lcl.of_new σ [.int .u64 0, .int .u64 0] 2 (.inl (by simp))
 obtain ⟨lx, hlx⟩ : ∃ lx, lx = σ.next := ⟨_, rfl⟩
 have hb := heap_base R1
 have h5 := heap_pool R1
 have hps := pool_space R1
 have hfin := fin_np4 H
 have c1 : ¬ ((a0 : Int) < (H.base : Int)) := by unfold Heap.addr at *; omega
 have c2 : ¬ ((H.fin : Int) <= (a0 : Int)) := by rw [hfin]; unfold Heap.addr at *; omega
 simp -implicitDefEqProofs only [go_sem, Nat.reduceEqDiff, Nat.reduceLeDiff, List.length_cons, List.length_nil, Nat.reduceAdd, hb, c1, h5, hps]
 rw [<- hlx] at L1 ⊢
 have N1 : ∀ s, H.has s -> A s ≠ lx := fun s hs => by have := hR.lt hs; omega
 generalize σ.new (.cells false 0 2 _ .nil) = σ1 at g1 R1 L1 hb h5 hps ⊢
 obtain ⟨v, σ2, ⟨hv, hs⟩, hr2⟩ := r_PSpace R1
 subst hv hs
 refine runs_ret hr2 ?_
 obtain ⟨v, σ3, ⟨hv, hs⟩, hr3⟩ := r_End R1 ok
 subst hv hs
 simp -implicitDefEqProofs only [go_sem, Nat.reduceEqDiff, Nat.reduceLeDiff, Nat.reduceAdd]
 refine runs_ret hr3 ?_
 have e1 : IntKind.u64.wrap ((a0 : Int) - (H.base : Int)) = ((4096 * p + y : Nat) : Int) := by
  unfold Heap.addr at *; rw [wu64_id] <;> omega
 have d2 : (4096 : Int) ≠ 0 := by decide
 have e2 : IntKind.u64.wrap (((4096 * p + y : Nat) : Int).tdiv 4096) = (p : Int) := by
  rw [show (4096 : Int) = ((4096 : Nat) : Int) from rfl, nat_tdiv, wu64_id] <;> omega
 have e3 : IntKind.i64.wrap (p : Int) = (p : Int) := i64_nat (by omega)
 obtain ⟨v, σ4, ⟨hv, hs⟩, hr4⟩ := r_PMap R1
 subst hv hs
 simp -implicitDefEqProofs only [go_sem, Nat.reduceEqDiff, Nat.reduceLeDiff, Nat.reduceAdd, c2, hb, e1, d2, bin_quo, ne_eq, not_false_eq_true, e2, e3, h5]
 refine runs_ret hr4 ?_
 simp -implicitDefEqProofs only [go_sem, Nat.reduceEqDiff, Nat.reduceLeDiff, Nat.reduceAdd]
 obtain ⟨v, σ5, ⟨hv, g5, R5⟩, hr5⟩ := R1.rgrow (r_At R1 ok hp)
 subst hv
 refine runs_ret hr5 ?_
 have L5 := L1.grow R1.gw g5
 obtain ⟨x, hx⟩ : ∃ x, x = H.page p := ⟨_, rfl⟩
 rw [<- hx]
 have hz : zeroP.cells = [V.int .i64 0, .int .i64 0, .int .i64 0, .int .i64 0, .int .i64 0, .int .i64 0, .int .i64 0, .int .u64 0, .int .u64 0, .int .u64 0, .int .u64 0] := rfl
 have hst := new_store (σ := σ5) (z := zeroP.cells) (vs := x.cells) (n := 11) (by simp [Page.cells_len]) rfl
 have g6 := Grow.lay σ5 11 zeroP.cells x.cells
 have R6 := R5.lay (n := 11) (z := zeroP.cells) (vs := x.cells) (by simp [Page.cells_len]) rfl
 have L6 := Lcl.lay σ5 11 zeroP.cells x.cells rfl
 have L6' := L5.grow R5.gw g6
 rw [hz] at hst R6 L6 L6' g6
 have k0 := L6.cell (i := 0) (by omega)
 rw [show lst x.cells 0 = .int .i64 4 by rw [<- hkind, <- hx]; rfl] at k0
 have k2 := L6.cell (i := 2) (by omega)
 rw [show lst x.cells 2 = .int .i64 c by rw [<- hcls, <- hx]; rfl] at k2
 have c3 : (0 : Int) <= (c : Int) := by omega
 have e4 : shlI .u64 16 (c : Int) = (w : Int) := by rw [hwd]; exact u64_shl (a := 16) (n := c) (by omega) (by omega)
 have cw : (w : Int) ≠ 0 := by omega
 have e5 : IntKind.u64.wrap ((a0 : Int).tdiv (w : Int)) = ((a / w : Nat) : Int) := by rw [u64_div (by omega), haa]
 have e6 : IntKind.u64.wrap (((a / w : Nat) : Int) * (w : Int)) = (a : Int) := by rw [u64_mul (by rw [haw]; omega), haw]
 have e7 : fillP [V.int .u64 0, .int .u64 0] [(0, 1, .int .u64 (a : Int)), (1, 1, .int .u64 (w : Int))] = some [V.int .u64 a, .int .u64 w] := rfl
 obtain ⟨ly, hly⟩ : ∃ ly, ly = σ5.next := ⟨_, rfl⟩
 have hst2 := new_store (σ := σ5.lay 11 zeroP.cells x.cells) (z := [.int .u64 0, .int .u64 0]) (vs := [.int .u64 a, .int .u64 w]) (n := 2) (by simp) rfl
 rw [hz] at hst2
 simp -implicitDefEqProofs only [go_sem, Nat.reduceEqDiff, Nat.reduceLeDiff, Nat.reduceAdd, List.length_cons, List.length_nil, vcells_agg, Page.cells_len, hst, k0, k2, bin_shl, c3, e4, bin_quo, cw, ne_eq, not_false_eq_true, e5, e6, evalParts, e7, hst2]
 rw [<- hly] at L6 k0 k2 ⊢
 have hne : lx ≠ ly := by have := L5.lt R5.gw; omega
 generalize σ5.lay 11 _ _ = σ6 at R6 L6 L6' g6 k0 k2 ⊢
 have g7 := Grow.lay σ6 2 [.int .u64 0, .int .u64 0] [.int .u64 a, .int .u64 w]
 have R7 := R6.lay (n := 2) (z := [.int .u64 0, .int .u64 0]) (vs := [.int .u64 a, .int .u64 w]) (by simp) rfl
 have L7 := Lcl.lay σ6 2 [.int .u64 0, .int .u64 0] [.int .u64 a, .int .u64 w] rfl
 have Lx := L6'.grow R6.gw g7
 have Ly := L6.grow R6.gw g7
 obtain ⟨lz, hlz⟩ : ∃ lz, lz = σ6.next := ⟨_, rfl⟩
 rw [<- hlz] at L7 ⊢
 have hne2 : lx ≠ lz := by have := L6'.lt R6.gw; omega
 have hgx : Grow σ σ6 := (g1.trans g5).trans g6
 have hgy := hgx.trans g7
 generalize σ6.lay 2 _ _ = σ7 at R7 L7 Lx Ly g7 hgy ⊢
 have z0 := L7.cell (i := 0) (by omega)
 rw [show lst [V.int .u64 a, .int .u64 w] 0 = .int .u64 a from rfl] at z0
 have zl := L7.load (off := 0) (k := 2) (by omega)
 rw [show ((List.range 2).map fun j => lst [V.int .u64 a, V.int .u64 w] (0 + j)) = [V.int .u64 a, V.int .u64 w] from rfl] at zl
 have e8 : (a : Int).tmod 4096 = (o : Int) := by rw [show (4096 : Int) = ((4096 : Nat) : Int) from rfl, nat_tmod, hrem]
 have e9 : IntKind.u64.wrap ((o : Int).tdiv (w : Int)) = (q : Int) := by rw [u64_div (by omega), ho, Nat.mul_div_cancel _ (by omega)]
 have c5 : (64 : Int) ≠ 0 := by decide
 have f2 : IntKind.u64.wrap ((q : Int).tdiv 64) = ((q / 64 : Nat) : Int) := u64_div (b := 64) (by omega)
 have f3 : ((q : Int).tmod 64) = ((q % 64 : Nat) : Int) := nat_tmod q 64
 have hj : q / 64 < 4 := by omega
 have hm : q % 64 < 64 := Nat.mod_lt _ (by omega)
 obtain ⟨j, hjj⟩ : ∃ j, j = q / 64 := ⟨_, rfl⟩
 obtain ⟨m, hmm⟩ : ∃ m, m = q % 64 := ⟨_, rfl⟩
 rw [<- hjj] at hj f2
 rw [<- hmm] at hm f3
 have c6 : (0 : Int) <= (j : Int) /\ (j : Int) < ((4 : Nat) : Int) := by omega
 have h1 : σ7.cell ly (7 + j) = some (.int .u64 (x.bw j)) := by
  rw [Ly.cell (by omega), <- cell_bw x hj]
  rcases (by omega : j = 0 \/ j = 1 \/ j = 2 \/ j = 3) with h | h | h | h <;> rw [h] <;> rfl
 have c7 : (0 : Int) <= (m : Int) := by omega
 have f4 : shrI .u64 ((x.bw j : Nat) : Int) (m : Int) = ((x.bw j / 2 ^ m : Nat) : Int) := shr_nat rfl (by omega)
 have f5 := u64_bit (w := x.bw j) (n := m) (by rw [hx]; exact hwords j)
 have f6 : (decide (((x.bw j / 2 ^ m % 2 : Nat) : Int) = 1)) = decide (x.bit q = 1) := by
  have : x.bit q = x.bw j / 2 ^ m % 2 := by simp [Page.bit, <- hjj, <- hmm]
  rw [this]
  exact decide_eq_decide.mpr (by omega)
 obtain ⟨σ8, hs8, L8, w8', P8⟩ := Lx.store R7.gw (off := 0) (vs := [.int .u64 a, .int .u64 w]) (by simp) rfl
 have h8 : σ8.cell ly (7 + j) = some (.int .u64 (x.bw j)) := by
  rw [(Ly.put P8 (by omega)).cell (by omega), <- cell_bw x hj]
  rcases (by omega : j = 0 \/ j = 1 \/ j = 2 \/ j = 3) with h | h | h | h <;> rw [h] <;> rfl
 have g8 : Grow σ σ8 := ⟨by rw [P8.next]; exact hgy.next, P8.grps.trans hgy.grps, fun b hb => (P8.old b (by omega)).trans (hgy.old b hb)⟩
 have hl := L8.load (off := 0) (k := 2) (by omega)
 rw [show ((List.range 2).map fun j => over (fun i => [V.int .u64 0, V.int .u64 0].getD (i % [V.int .u64 0, V.int .u64 0].length) .undef) 0 [V.int .u64 a, V.int .u64 w] (0 + j)) = [V.int .u64 a, V.int .u64 w] from rfl] at hl
 simp -implicitDefEqProofs only [go_sem, Nat.reduceEqDiff, Nat.reduceLeDiff, Nat.reduceAdd, List.length_cons, List.length_nil, vcells_agg, z0, zl, d2, bin_rem, bin_quo, cw, ne_eq, not_false_eq_true, e8, e9, c5, f2, f3, c6, and_self, Int.toNat_natCast, Nat.mul_one, h1, c7, bin_shr, f4, f5, f6, hs8, h8, hl]
 exact g8
theorem r_blkP (hR : HRep σ A H) (ok : H.OK) {p k y : Nat} {kd : Int} (hp : p < H.np) (hkd : kd = 2 \/ kd = 3) (hkind : (H.page p).kind = kd) (hord : (H.page p).order = (k : Int)) (hk8 : k <= 8) (hy : y < 4096) :
  Runs G0 [] 132 [.ptr (some (A .heap, 0)), .int .u64 (H.addr p + y : Nat)] σ fun r σ' =>
   r = .tuple [.agg [.int .u64 (H.addr (p / 2 ^ k * 2 ^ k)), .int .u64 (4096 * 2 ^ k : Nat)], .bool true] /\ Grow σ σ' := by
 refine runs_body g132 rfl ?_
 have hnp := np_le ok
 have ha2 : H.addr p + 4096 < 18446744073709551616 := by
  have := addr_lt ok (p := p + 1) hp
  unfold Heap.addr at *; omega
 obtain ⟨o, ho⟩ : ∃ o, o = 0 := ⟨_, rfl⟩
 obtain ⟨f, hf⟩ : ∃ f, f = p / 2 ^ k * 2 ^ k := ⟨_, rfl⟩
 have hfp : f <= p := by rw [hf]; exact Nat.div_mul_le_self _ _
 obtain ⟨a, had⟩ : ∃ a, a = H.addr f := ⟨_, rfl⟩
 obtain ⟨a0, ha0⟩ : ∃ a0, a0 = H.addr p + y := ⟨_, rfl⟩
 rw [<- hf, <- had, <- ha0]
 have g1 := Grow.new σ (.cells false 0 2 [.int .u64 0, .int .u64 0] .nil)
 have R1 := hR.new (.cells false 0 2 [.int .u64 0, .int .u64 0] .nil) rfl
 have L1 := Lcl.of_new σ [.int .u64 0, .int .u64 0] 2 (.inl (by simp))
 obtain ⟨lx, hlx⟩ : ∃ lx, lx = σ.next := ⟨_, rfl⟩
 have hb := heap_base R1
 have h5 := heap_pool R1
 have hps := pool_space R1
 have hfin := fin_np4 H
 have c1 : ¬ ((a0 : Int) < (H.base : Int)) := by unfold Heap.addr at *; omega
 have c2 : ¬ ((H.fin : Int) <= (a0 : Int)) := by rw [hfin]; unfold Heap.addr at *; omega
 simp -implicitDefEqProofs only [go_sem, Nat.reduceEqDiff, Nat.reduceLeDiff, List.length_cons, List.length_nil, Nat.reduceAdd, hb, c1, h5, hps]
 rw [<- hlx] at L1 ⊢
 have N1 : ∀ s, H.has s -> A s ≠ lx := fun s hs => by have := hR.lt hs; omega
 generalize σ.new (.cells false 0 2 _ .nil) = σ1 at g1 R1 L1 hb h5 hps ⊢
 obtain ⟨v, σ2, ⟨hv, hs⟩, hr2⟩ := r_PSpace R1
 subst hv hs
 refine runs_ret hr2 ?_
 obtain ⟨v, σ3, ⟨hv, hs⟩, hr3⟩ := r_End R1 ok
 subst hv hs
 simp -implicitDefEqProofs only [go_sem, Nat.reduceEqDiff, Nat.reduceLeDiff, Nat.reduceAdd]
 refine runs_ret hr3 ?_
 have e1 : IntKind.u64.wrap ((a0 : Int) - (H.base : Int)) = ((4096 * p + y : Nat) : Int) := by
  unfold Heap.addr at *; rw [wu64_id] <;> omega
 have d2 : (4096 : Int) ≠ 0 := by decide
 have e2 : IntKind.u64.wrap (((4096 * p + y : Nat) : Int).tdiv 4096) = (p : Int) := by
  rw [show (4096 : Int) = ((4096 : Nat) : Int) from rfl, nat_tdiv, wu64_id] <;> omega
 have e3 : IntKind.i64.wrap (p : Int) = (p : Int) := i64_nat (by omega)
 obtain ⟨v, σ4, ⟨hv, hs⟩, hr4⟩ := r_PMap R1
 subst hv hs
 simp -implicitDefEqProofs only [go_sem, Nat.reduceEqDiff, Nat.reduceLeDiff, Nat.reduceAdd, c2, hb, e1, d2, bin_quo, ne_eq, not_false_eq_true, e2, e3, h5]
 refine runs_ret hr4 ?_
 simp -implicitDefEqProofs only [go_sem, Nat.reduceEqDiff, Nat.reduceLeDiff, Nat.reduceAdd]
 obtain ⟨v, σ5, ⟨hv, g5, R5⟩, hr5⟩ := R1.rgrow (r_At R1 ok hp)
 subst hv
 refine runs_ret hr5 ?_
 have L5 := L1.grow R1.gw g5
 obtain ⟨x, hx⟩ : ∃ x, x = H.page p := ⟨_, rfl⟩
 rw [<- hx]
 have hz : zeroP.cells = [V.int .i64 0, .int .i64 0, .int .i64 0, .int .i64 0, .int .i64 0, .int .i64 0, .int .i64 0, .int .u64 0, .int .u64 0, .int .u64 0, .int .u64 0] := rfl
 have hst := new_store (σ := σ5) (z := zeroP.cells) (vs := x.cells) (n := 11) (by simp [Page.cells_len]) rfl
 have g6 := Grow.lay σ5 11 zeroP.cells x.cells
 have R6 := R5.lay (n := 11) (z := zeroP.cells) (vs := x.cells) (by simp [Page.cells_len]) rfl
 have L6 := Lcl.lay σ5 11 zeroP.cells x.cells rfl
 have L6' := L5.grow R5.gw g6
 rw [hz] at hst R6 L6 L6' g6
 have k0 := L6.cell (i := 0) (by omega)
 rw [show lst x.cells 0 = .int .i64 kd by rw [<- hkind, <- hx]; rfl] at k0
 have k1 := L6.cell (i := 1) (by omega)
 rw [show lst x.cells 1 = .int .i64 k by rw [<- hord, <- hx]; rfl] at k1
 obtain ⟨ly, hly⟩ : ∃ ly, ly = σ5.next := ⟨_, rfl⟩
 have d4 : ¬ (kd = 4) := by omega
 have d5 : ¬ (kd = 2) -> kd = 3 := by omega
 have h56 := heap_pool R6
 have hps6 := pool_space R6
 rcases hkd with rfl | rfl
 ·simp -implicitDefEqProofs only [go_sem, Nat.reduceEqDiff, Nat.reduceLeDiff, Nat.reduceAdd, List.length_cons, List.length_nil, vcells_agg, Page.cells_len, hst, k0, k1, Int.reduceEq, h56]
  rw [<- hly] at L6 k0 k1 ⊢
  have hne : lx ≠ ly := by have := L5.lt R5.gw; omega
  have hgx : Grow σ (σ5.lay 11 zeroP.cells x.cells) := by rw [hz]; exact (g1.trans g5).trans g6
  rw [hz] at hgx
  generalize σ5.lay 11 _ _ = σ6 at R6 L6 L6' g6 k0 k1 h56 hps6 hgx ⊢
  obtain ⟨v, σ7, ⟨hv, hs⟩, hr7⟩ := r_PMap R6
  subst hv hs
  refine runs_ret hr7 ?_
  obtain ⟨v, σ8, ⟨hv, g8, R8⟩, hr8⟩ := R6.rgrow (r_Head R6 ok (p := p) (k := k) hp hord hk8)
  subst hv
  simp -implicitDefEqProofs only [go_sem, Nat.reduceEqDiff, Nat.reduceLeDiff, Nat.reduceAdd]
  refine runs_ret hr8 ?_
  have Lx := L6'.grow R6.gw g8
  have Ly := L6.grow R6.gw g8
  have m1 := Ly.cell (i := 1) (by omega)
  rw [show lst x.cells 1 = .int .i64 k by rw [<- hord, <- hx]; rfl] at m1
  have hb8 := heap_base R8
  have hpk : p / 2 ^ k * 2 ^ k = f := hf.symm
  have e4 : IntKind.u64.wrap (f : Int) = (f : Int) := wu64_id (by omega) (by omega)
  have e5 : IntKind.u64.wrap ((f : Int) * 4096) = ((4096 * f : Nat) : Int) := by rw [wu64_id] <;> omega
  have e6 : IntKind.u64.wrap ((H.base : Int) + ((4096 * f : Nat) : Int)) = (a : Int) := by
   rw [had]; unfold Heap.addr at *; rw [wu64_id] <;> omega
  have c3 : (0 : Int) <= (k : Int) := by omega
  have hp8 := pow_le hk8
  have e7 : shlI .u64 4096 (k : Int) = ((4096 * 2 ^ k : Nat) : Int) := u64_shl (a := 4096) (n := k) (by omega) (by omega)
  obtain ⟨w, hw⟩ : ∃ w, w = 4096 * 2 ^ k := ⟨_, rfl⟩
  rw [<- hw] at e7 ⊢
  have e8 : fillP [V.int .u64 0, .int .u64 0] [(0, 1, .int .u64 (a : Int)), (1, 1, .int .u64 (w : Int))] = some [V.int .u64 a, .int .u64 w] := rfl
  obtain ⟨σ9, hs9, L9, w9, P9⟩ := Lx.store R8.gw (off := 0) (vs := [.int .u64 a, .int .u64 w]) (by simp) rfl
  have hg8 := hgx.trans g8
  have g9 : Grow σ σ9 := ⟨by rw [P9.next]; exact hg8.next, P9.grps.trans hg8.grps, fun b hb => (P9.old b (by omega)).trans (hg8.old b hb)⟩
  have hl := L9.load (off := 0) (k := 2) (by omega)
  rw [show ((List.range 2).map fun j => over (fun i => [V.int .u64 0, V.int .u64 0].getD (i % [V.int .u64 0, V.int .u64 0].length) .undef) 0 [V.int .u64 a, V.int .u64 w] (0 + j)) = [V.int .u64 a, V.int .u64 w] from rfl] at hl
  have m1' := (Ly.put P9 (by omega)).cell (i := 1) (by omega)
  rw [show lst x.cells 1 = .int .i64 k by rw [<- hord, <- hx]; rfl] at m1'
  have hb9 := heap_base (R8.other w9 N1 P9 (R8.wid.not_lcl Lx))
  simp -implicitDefEqProofs only [go_sem, Nat.reduceEqDiff, Nat.reduceLeDiff, Nat.reduceAdd, List.length_cons, List.length_nil, vcells_agg, hpk, hb8, e4, e5, e6, m1, bin_shl, c3, e7, evalParts, e8, hs9, hb9, m1', hl]
  exact g9
 ·simp -implicitDefEqProofs only [go_sem, Nat.reduceEqDiff, Nat.reduceLeDiff, Nat.reduceAdd, List.length_cons, List.length_nil, vcells_agg, Page.cells_len, hst, k0, k1, Int.reduceEq, h56]
  rw [<- hly] at L6 k0 k1 ⊢
  have hne : lx ≠ ly := by have := L5.lt R5.gw; omega
  have hgx : Grow σ (σ5.lay 11 zeroP.cells x.cells) := by rw [hz]; exact (g1.trans g5).trans g6
  rw [hz] at hgx
  generalize σ5.lay 11 _ _ = σ6 at R6 L6 L6' g6 k0 k1 h56 hps6 hgx ⊢
  obtain ⟨v, σ7, ⟨hv, hs⟩, hr7⟩ := r_PMap R6
  subst hv hs
  refine runs_ret hr7 ?_
  obtain ⟨v, σ8, ⟨hv, g8, R8⟩, hr8⟩ := R6.rgrow (r_Head R6 ok (p := p) (k := k) hp hord hk8)
  subst hv
  simp -implicitDefEqProofs only [go_sem, Nat.reduceEqDiff, Nat.reduceLeDiff, Nat.reduceAdd]
  refine runs_ret hr8 ?_
  have Lx := L6'.grow R6.gw g8
  have Ly := L6.grow R6.gw g8
  have m1 := Ly.cell (i := 1) (by omega)
  rw [show lst x.cells 1 = .int .i64 k by rw [<- hord, <- hx]; rfl] at m1
  have hb8 := heap_base R8
  have hpk : p / 2 ^ k * 2 ^ k = f := hf.symm
  have e4 : IntKind.u64.wrap (f : Int) = (f : Int) := wu64_id (by omega) (by omega)
  have e5 : IntKind.u64.wrap ((f : Int) * 4096) = ((4096 * f : Nat) : Int) := by rw [wu64_id] <;> omega
  have e6 : IntKind.u64.wrap ((H.base : Int) + ((4096 * f : Nat) : Int)) = (a : Int) := by
   rw [had]; unfold Heap.addr at *; rw [wu64_id] <;> omega
  have c3 : (0 : Int) <= (k : Int) := by omega
  have hp8 := pow_le hk8
  have e7 : shlI .u64 4096 (k : Int) = ((4096 * 2 ^ k : Nat) : Int) := u64_shl (a := 4096) (n := k) (by omega) (by omega)
  obtain ⟨w, hw⟩ : ∃ w, w = 4096 * 2 ^ k := ⟨_, rfl⟩
  rw [<- hw] at e7 ⊢
  have e8 : fillP [V.int .u64 0, .int .u64 0] [(0, 1, .int .u64 (a : Int)), (1, 1, .int .u64 (w : Int))] = some [V.int .u64 a, .int .u64 w] := rfl
  obtain ⟨σ9, hs9, L9, w9, P9⟩ := Lx.store R8.gw (off := 0) (vs := [.int .u64 a, .int .u64 w]) (by simp) rfl
  have hg8 := hgx.trans g8
  have g9 : Grow σ σ9 := ⟨by rw [P9.next]; exact hg8.next, P9.grps.trans hg8.grps, fun b hb => (P9.old b (by omega)).trans (hg8.old b hb)⟩
  have hl := L9.load (off := 0) (k := 2) (by omega)
  rw [show ((List.range 2).map fun j => over (fun i => [V.int .u64 0, V.int .u64 0].getD (i % [V.int .u64 0, V.int .u64 0].length) .undef) 0 [V.int .u64 a, V.int .u64 w] (0 + j)) = [V.int .u64 a, V.int .u64 w] from rfl] at hl
  have m1' := (Ly.put P9 (by omega)).cell (i := 1) (by omega)
  rw [show lst x.cells 1 = .int .i64 k by rw [<- hord, <- hx]; rfl] at m1'
  have hb9 := heap_base (R8.other w9 N1 P9 (R8.wid.not_lcl Lx))
  simp -implicitDefEqProofs only [go_sem, Nat.reduceEqDiff, Nat.reduceLeDiff, Nat.reduceAdd, List.length_cons, List.length_nil, vcells_agg, hpk, hb8, e4, e5, e6, m1, bin_shl, c3, e7, evalParts, e8, hs9, hb9, m1', hl]
  exact g9
theorem r_blkF (hR : HRep σ A H) (ok : H.OK) {p y : Nat} {kd : Int} (hp : p < H.np) (hkd : kd = 0 \/ kd = 1) (hkind : (H.page p).kind = kd) (hy : y < 4096) :
  Runs G0 [] 132 [.ptr (some (A .heap, 0)), .int .u64 (H.addr p + y : Nat)] σ fun r σ' => r = .tuple [.agg [.int .u64 0, .int .u64 0], .bool false] /\ Grow σ σ' := by
 refine runs_body g132 rfl ?_
 have hnp := np_le ok
 have ha2 : H.addr p + 4096 < 18446744073709551616 := by
  have := addr_lt ok (p := p + 1) hp
  unfold Heap.addr at *; omega
 obtain ⟨o, ho⟩ : ∃ o, o = 0 := ⟨_, rfl⟩
 obtain ⟨a0, ha0⟩ : ∃ a0, a0 = H.addr p + y := ⟨_, rfl⟩
 rw [<- ha0]
 have g1 := Grow.new σ (.cells false 0 2 [.int .u64 0, .int .u64 0] .nil)
 have R1 := hR.new (.cells false 0 2 [.int .u64 0, .int .u64 0] .nil) rfl
 have L1 := Lcl.of_new σ [.int .u64 0, .int .u64 0] 2 (.inl (by simp))
 obtain ⟨lx, hlx⟩ : ∃ lx, lx = σ.next := ⟨_, rfl⟩
 have hb := heap_base R1
 have h5 := heap_pool R1
 have hps := pool_space R1
 have hfin := fin_np4 H
 have c1 : ¬ ((a0 : Int) < (H.base : Int)) := by unfold Heap.addr at *; omega
 have c2 : ¬ ((H.fin : Int) <= (a0 : Int)) := by rw [hfin]; unfold Heap.addr at *; omega
 simp -implicitDefEqProofs only [go_sem, Nat.reduceEqDiff, Nat.reduceLeDiff, List.length_cons, List.length_nil, Nat.reduceAdd, hb, c1, h5, hps]
 rw [<- hlx] at L1 ⊢
 have N1 : ∀ s, H.has s -> A s ≠ lx := fun s hs => by have := hR.lt hs; omega
 generalize σ.new (.cells false 0 2 _ .nil) = σ1 at g1 R1 L1 hb h5 hps ⊢
 obtain ⟨v, σ2, ⟨hv, hs⟩, hr2⟩ := r_PSpace R1
 subst hv hs
 refine runs_ret hr2 ?_
 obtain ⟨v, σ3, ⟨hv, hs⟩, hr3⟩ := r_End R1 ok
 subst hv hs
 simp -implicitDefEqProofs only [go_sem, Nat.reduceEqDiff, Nat.reduceLeDiff, Nat.reduceAdd]
 refine runs_ret hr3 ?_
 have e1 : IntKind.u64.wrap ((a0 : Int) - (H.base : Int)) = ((4096 * p + y : Nat) : Int) := by
  unfold Heap.addr at *; rw [wu64_id] <;> omega
 have d2 : (4096 : Int) ≠ 0 := by decide
 have e2 : IntKind.u64.wrap (((4096 * p + y : Nat) : Int).tdiv 4096) = (p : Int) := by
  rw [show (4096 : Int) = ((4096 : Nat) : Int) from rfl, nat_tdiv, wu64_id] <;> omega
 have e3 : IntKind.i64.wrap (p : Int) = (p : Int) := i64_nat (by omega)
 obtain ⟨v, σ4, ⟨hv, hs⟩, hr4⟩ := r_PMap R1
 subst hv hs
 simp -implicitDefEqProofs only [go_sem, Nat.reduceEqDiff, Nat.reduceLeDiff, Nat.reduceAdd, c2, hb, e1, d2, bin_quo, ne_eq, not_false_eq_true, e2, e3, h5]
 refine runs_ret hr4 ?_
 simp -implicitDefEqProofs only [go_sem, Nat.reduceEqDiff, Nat.reduceLeDiff, Nat.reduceAdd]
 obtain ⟨v, σ5, ⟨hv, g5, R5⟩, hr5⟩ := R1.rgrow (r_At R1 ok hp)
 subst hv
 refine runs_ret hr5 ?_
 have L5 := L1.grow R1.gw g5
 obtain ⟨x, hx⟩ : ∃ x, x = H.page p := ⟨_, rfl⟩
 rw [<- hx]
 have hz : zeroP.cells = [V.int .i64 0, .int .i64 0, .int .i64 0, .int .i64 0, .int .i64 0, .int .i64 0, .int .i64 0, .int .u64 0, .int .u64 0, .int .u64 0, .int .u64 0] := rfl
 have hst := new_store (σ := σ5) (z := zeroP.cells) (vs := x.cells) (n := 11) (by simp [Page.cells_len]) rfl
 have g6 := Grow.lay σ5 11 zeroP.cells x.cells
 have R6 := R5.lay (n := 11) (z := zeroP.cells) (vs := x.cells) (by simp [Page.cells_len]) rfl
 have L6 := Lcl.lay σ5 11 zeroP.cells x.cells rfl
 have L6' := L5.grow R5.gw g6
 rw [hz] at hst R6 L6 L6' g6
 have k0 := L6.cell (i := 0) (by omega)
 rw [show lst x.cells 0 = .int .i64 kd by rw [<- hkind, <- hx]; rfl] at k0
 obtain ⟨ly, hly⟩ : ∃ ly, ly = σ5.next := ⟨_, rfl⟩
 have h56 := heap_pool R6
 have hps6 := pool_space R6
 have e0 : fillP [V.int .u64 0, .int .u64 0] [] = some [V.int .u64 0, .int .u64 0] := rfl
 have hgx : Grow σ (σ5.lay 11 zeroP.cells x.cells) := by rw [hz]; exact (g1.trans g5).trans g6
 rw [hz] at hgx
 obtain ⟨σ8, hs8, L8, w8', P8⟩ := L6'.store R6.gw (off := 0) (vs := [.int .u64 0, .int .u64 0]) (by simp) rfl
 have hl := L8.load (off := 0) (k := 2) (by omega)
 rw [show ((List.range 2).map fun j => over (fun i => [V.int .u64 0, V.int .u64 0].getD (i % [V.int .u64 0, V.int .u64 0].length) .undef) 0 [V.int .u64 0, V.int .u64 0] (0 + j)) = [V.int .u64 0, V.int .u64 0] from rfl] at hl
 have g8 : Grow σ σ8 := ⟨by rw [P8.next]; exact hgx.next, P8.grps.trans hgx.grps, fun b hb => (P8.old b (by omega)).trans (hgx.old b hb)⟩
 rcases hkd with rfl | rfl
 ·simp -implicitDefEqProofs only [go_sem, Nat.reduceEqDiff, Nat.reduceLeDiff, Nat.reduceAdd, List.length_cons, List.length_nil, vcells_agg, Page.cells_len, hst, k0, Int.reduceEq, evalParts, e0, hs8, hl]
  exact g8
 ·simp -implicitDefEqProofs only [go_sem, Nat.reduceEqDiff, Nat.reduceLeDiff, Nat.reduceAdd, List.length_cons, List.length_nil, vcells_agg, Page.cells_len, hst, k0, Int.reduceEq, evalParts, e0, hs8, hl]
  exact g8
theorem r_blkO (hR : HRep σ A H) (ok : H.OK) {a : Nat} (ha : a < H.base \/ H.fin <= a) :
  Runs G0 [] 132 [.ptr (some (A .heap, 0)), .int .u64 a] σ fun r σ' => r = .tuple [.agg [.int .u64 0, .int .u64 0], .bool false] /\ Grow σ σ' := by
 refine runs_body g132 rfl ?_
 have g1 := Grow.new σ (.cells false 0 2 [.int .u64 0, .int .u64 0] .nil)
 have R1 := hR.new (.cells false 0 2 [.int .u64 0, .int .u64 0] .nil) rfl
 have L1 := Lcl.of_new σ [.int .u64 0, .int .u64 0] 2 (.inl (by simp))
 obtain ⟨lx, hlx⟩ : ∃ lx, lx = σ.next := ⟨_, rfl⟩
 have hb := heap_base R1
 have h5 := heap_pool R1
 have hps := pool_space R1
 have e0 : fillP [V.int .u64 0, .int .u64 0] [] = some [V.int .u64 0, .int .u64 0] := rfl
 obtain ⟨σ8, hs8, L8, w8', P8⟩ := L1.store R1.gw (off := 0) (vs := [.int .u64 0, .int .u64 0]) (by simp) rfl
 have hl := L8.load (off := 0) (k := 2) (by omega)
 rw [show ((List.range 2).map fun j => over (fun i => [V.int .u64 0, V.int .u64 0].getD (i % [V.int .u64 0, V.int .u64 0].length) .undef) 0 [V.int .u64 0, V.int .u64 0] (0 + j)) = [V.int .u64 0, V.int .u64 0] from rfl] at hl
 have g8 : Grow σ σ8 := ⟨by rw [P8.next]; exact g1.next, P8.grps.trans g1.grps, fun b hb => (P8.old b (by omega)).trans (g1.old b hb)⟩
 by_cases c1 : (a : Int) < (H.base : Int)
 ·simp -implicitDefEqProofs only [go_sem, Nat.reduceEqDiff, Nat.reduceLeDiff, List.length_cons, List.length_nil, Nat.reduceAdd, hb, c1, h5, hps, evalParts, e0, vcells_agg, hs8, hl]
  exact g8
 ·have c2 : (H.fin : Int) <= (a : Int) := by omega
  simp -implicitDefEqProofs only [go_sem, Nat.reduceEqDiff, Nat.reduceLeDiff, List.length_cons, List.length_nil, Nat.reduceAdd, hb, c1, h5, hps]
  rw [<- hlx] at L1 ⊢
  rw [<- hlx] at hs8 hl
  generalize σ.new (.cells false 0 2 _ .nil) = σ1 at g1 R1 L1 hb h5 hps hs8 ⊢
  obtain ⟨v, σ2, ⟨hv, hs⟩, hr2⟩ := r_PSpace R1
  subst hv hs
  refine runs_ret hr2 ?_
  obtain ⟨v, σ3, ⟨hv, hs⟩, hr3⟩ := r_End R1 ok
  subst hv hs
  simp -implicitDefEqProofs only [go_sem, Nat.reduceEqDiff, Nat.reduceLeDiff, Nat.reduceAdd]
  refine runs_ret hr3 ?_
  simp -implicitDefEqProofs only [go_sem, Nat.reduceEqDiff, Nat.reduceLeDiff, Nat.reduceAdd, List.length_cons, List.length_nil, c2, evalParts, e0, vcells_agg, hs8, hl]
  exact g8
end
end Go.Proofs.YtlgmpheammbacaaGreatDoor
set_option maxRecDepth 1000000
namespace Go.Proofs.YtlgmpheammbacaaGreatDoor
open AM Go
noncomputable section
set_option linter.unusedVariables false
set_option linter.unusedSimpArgs false
attribute [local irreducible] T.get T.set
variable {σ : St} {A : Slot -> Nat} {H H' : Heap} {fl pl fc : Nat -> List Nat} {hole : Nat -> Prop}
def _root_.AM.Heap.blockF (H : Heap) (a : Nat) : Option (Nat × Nat) :=
 if a < H.base \/ H.fin <= a then none
 else if (H.page ((a - H.base) / 4096)).kind = 4 then
  (if (H.page ((a - H.base) / 4096)).bit ((a - H.base) % 4096 / (16 * 2 ^ (H.page ((a - H.base) / 4096)).cls.toNat)) = 1 then
   some (H.addr ((a - H.base) / 4096) + (a - H.base) % 4096 / (16 * 2 ^ (H.page ((a - H.base) / 4096)).cls.toNat) * (16 * 2 ^ (H.page ((a - H.base) / 4096)).cls.toNat), 16 * 2 ^ (H.page ((a - H.base) / 4096)).cls.toNat) else none)
 else if (H.page ((a - H.base) / 4096)).kind = 2 \/ (H.page ((a - H.base) / 4096)).kind = 3 then
  some (H.addr ((a - H.base) / 4096 / 2 ^ (H.page ((a - H.base) / 4096)).order.toNat * 2 ^ (H.page ((a - H.base) / 4096)).order.toNat), 4096 * 2 ^ (H.page ((a - H.base) / 4096)).order.toNat)
 else none
theorem r_blockG (hR : HRep σ A H) (h : Inv H fl pl fc (fun _ => False)) (a : Nat) :
  Runs G0 [] 132 [.ptr (some (A .heap, 0)), .int .u64 a] σ fun r s => (∃ P w : Nat, r = .tuple [.agg [.int .u64 P, .int .u64 w], .bool (H.blockF a).isSome] /\ ∀ x, H.blockF a = some x -> x = (P, w)) /\ Grow σ s := by
 unfold Heap.blockF
 by_cases c : a < H.base \/ H.fin <= a
 ·rw [if_pos c]
  refine (r_blkO hR h.ok c).mono ?_
  rintro v s ⟨rfl, g⟩
  exact ⟨⟨0, 0, rfl, fun x hx => by cases hx⟩, g⟩
 ·rw [if_neg c]
  obtain ⟨x, hx⟩ : ∃ x, x = (a - H.base) / 4096 := ⟨_, rfl⟩
  obtain ⟨y, hy⟩ : ∃ y, y = (a - H.base) % 4096 := ⟨_, rfl⟩
  have hfn := fin_np H
  have hxp : x < H.np := by omega
  have ha : a = H.addr x + y := by unfold Heap.addr; omega
  have hy4 : y < 4096 := by omega
  rw [<- hx, <- hy, ha]
  obtain ⟨k, fam, g⟩ := h.pg x hxp (fun e => e)
  have hord := g.order
  by_cases c4 : (H.page x).kind = 4
  ·rw [if_pos c4]
   obtain ⟨cc, s⟩ := h.sl x hxp (fun e => e) c4
   have hct : (H.page x).cls.toNat = cc := by have := s.cls; omega
   rw [hct]
   refine (r_blkS hR h.ok (q := y / (16 * 2 ^ cc)) hxp c4 s.cls s.c8 hy4 rfl s.words).mono ?_
   rintro v t ⟨rfl, gr⟩
   refine ⟨⟨H.addr x + y / (16 * 2 ^ cc) * (16 * 2 ^ cc), 16 * 2 ^ cc, ?_, ?_⟩, gr⟩
   ·by_cases cb : (H.page x).bit (y / (16 * 2 ^ cc)) = 1
    ·rw [if_pos cb, decide_eq_true cb]; rfl
    ·rw [if_neg cb, decide_eq_false cb]; rfl
   ·intro z hz
    by_cases cb : (H.page x).bit (y / (16 * 2 ^ cc)) = 1
    ·rw [if_pos cb] at hz; exact (Option.some.inj hz).symm
    ·rw [if_neg cb] at hz; cases hz
  ·rw [if_neg c4]
   have hot : (H.page x).order.toNat = k := by omega
   rw [hot]
   have hk8 : k <= 8 := Nat.le_trans g.le h.ok.order_le
   by_cases c23 : (H.page x).kind = 2 \/ (H.page x).kind = 3
   ·rw [if_pos c23]
    refine (r_blkP hR h.ok (k := k) hxp c23 rfl hord hk8 hy4).mono ?_
    rintro v t ⟨rfl, gr⟩
    exact ⟨⟨_, _, rfl, fun z hz => (Option.some.inj hz).symm⟩, gr⟩
   ·rw [if_neg c23]
    have c01 : (H.page x).kind = 0 \/ (H.page x).kind = 1 := by
     have hk := (g.all x rfl).2.2
     rcases g.fams with f | f | ⟨f, f2⟩
     ·split at hk <;> omega
     ·split at hk <;> omega
     ·subst f2
      rw [if_pos (by simp [Nat.mod_one])] at hk
      omega
    refine (r_blkF hR h.ok hxp c01 rfl hy4).mono ?_
    rintro v t ⟨rfl, gr⟩
    exact ⟨⟨0, 0, rfl, fun z hz => by cases hz⟩, gr⟩
def _root_.AM.Heap.startF (H : Heap) (a : Nat) : Option Nat := match H.blockF a with
 |some x => if x.1 = a then some x.2 else none
 |none => none
theorem r_startG (hR : HRep σ A H) (h : Inv H fl pl fc (fun _ => False)) (a : Nat) :
  Runs G0 [] 122 [.ptr (some (A .heap, 0)), .int .u64 a] σ fun r s => r = (match H.startF a with | some w => .tuple [.agg [.int .u64 a, .int .u64 w], .int .i64 0] | none => .tuple [.agg [.int .u64 0, .int .u64 0], .int .i64 1]) /\ Grow σ s := by
 refine runs_body g122 rfl ?_
 have g1 := Grow.new σ (.cells false 0 2 [.int .u64 0, .int .u64 0] .nil)
 have R1 := hR.new (.cells false 0 2 [.int .u64 0, .int .u64 0] .nil) rfl
 have L1 := Lcl.of_new σ [.int .u64 0, .int .u64 0] 2 (.inl (by simp))
 obtain ⟨lx, hlx⟩ : ∃ lx, lx = σ.next := ⟨_, rfl⟩
 simp -implicitDefEqProofs only [go_sem, Nat.reduceEqDiff, List.length_cons, List.length_nil, Nat.reduceAdd]
 rw [<- hlx] at L1 ⊢
 generalize σ.new (.cells false 0 2 _ .nil) = σ1 at g1 R1 L1 ⊢
 obtain ⟨v, σ2, ⟨⟨P, w, hv, hb⟩, g2, R2⟩, hr2⟩ := R1.rgrow (r_blockG R1 h a)
 subst hv
 refine runs_ret hr2 ?_
 have hst := new_store (σ := σ2) (z := [.int .u64 0, .int .u64 0]) (vs := [.int .u64 P, .int .u64 w]) (n := 2) (by simp) rfl
 have g3 := Grow.lay σ2 2 [.int .u64 0, .int .u64 0] [.int .u64 P, .int .u64 w]
 have R3 := R2.lay (n := 2) (z := [.int .u64 0, .int .u64 0]) (vs := [.int .u64 P, .int .u64 w]) (by simp) rfl
 have L3 := Lcl.lay σ2 2 [.int .u64 0, .int .u64 0] [.int .u64 P, .int .u64 w] rfl
 have Lx := (L1.grow R1.gw g2).grow R2.gw g3
 have m0 := L3.cell (i := 0) (by omega)
 rw [show lst [V.int .u64 P, .int .u64 w] 0 = .int .u64 P from rfl] at m0
 have ml := L3.load (off := 0) (k := 2) (by omega)
 rw [show ((List.range 2).map fun j => lst [V.int .u64 P, V.int .u64 w] (0 + j)) = [V.int .u64 P, V.int .u64 w] from rfl] at ml
 obtain ⟨σ4, hs4, L4, w4, P4⟩ := Lx.store R3.gw (off := 0) (vs := [.int .u64 P, .int .u64 w]) (by simp) rfl
 have g23 := (g1.trans g2).trans g3
 have g4 : Grow σ σ4 := ⟨by rw [P4.next]; exact g23.next, P4.grps.trans g23.grps, fun b hb => (P4.old b (by omega)).trans (g23.old b hb)⟩
 have hl := L4.load (off := 0) (k := 2) (by omega)
 rw [show ((List.range 2).map fun j => over (fun i => [V.int .u64 0, V.int .u64 0].getD (i % [V.int .u64 0, V.int .u64 0].length) .undef) 0 [V.int .u64 P, V.int .u64 w] (0 + j)) = [V.int .u64 P, V.int .u64 w] from rfl] at hl
 obtain ⟨σ5, hs5, L5, w5, P5⟩ := Lx.store R3.gw (off := 0) (vs := [.int .u64 0, .int .u64 0]) (by simp) rfl
 have g5 : Grow σ σ5 := ⟨by rw [P5.next]; exact g23.next, P5.grps.trans g23.grps, fun b hb => (P5.old b (by omega)).trans (g23.old b hb)⟩
 have hl5 := L5.load (off := 0) (k := 2) (by omega)
 rw [show ((List.range 2).map fun j => over (fun i => [V.int .u64 0, V.int .u64 0].getD (i % [V.int .u64 0, V.int .u64 0].length) .undef) 0 [V.int .u64 0, V.int .u64 0] (0 + j)) = [V.int .u64 0, V.int .u64 0] from rfl] at hl5
 have e0 : fillP [V.int .u64 0, .int .u64 0] [] = some [V.int .u64 0, .int .u64 0] := rfl
 cases hbk : H.blockF a with
 |none =>
  rw [show H.startF a = none by unfold Heap.startF; rw [hbk]]
  simp -implicitDefEqProofs only [go_sem, Nat.reduceEqDiff, List.length_cons, List.length_nil, Nat.reduceAdd, vcells_agg, hst, Option.isSome, Bool.not_false, m0, ml, evalParts, e0, hs5, hl5, if_true]
  exact g5
 |some x =>
  have := hb x hbk
  subst this
  by_cases c : P = a
  ·subst c
   rw [show H.startF P = some w by unfold Heap.startF; rw [hbk]; exact if_pos rfl]
   simp -implicitDefEqProofs only [go_sem, Nat.reduceEqDiff, List.length_cons, List.length_nil, Nat.reduceAdd, vcells_agg, hst, Option.isSome, Bool.not_true, m0, ml, ne_eq, not_true_eq_false, decide_false, hs4, hl]
   exact g4
  ·rw [show H.startF a = none by unfold Heap.startF; rw [hbk]; exact if_neg c]
   have d1 : ¬ ((P : Int) = (a : Int)) := by omega
   simp -implicitDefEqProofs only [go_sem, Nat.reduceEqDiff, List.length_cons, List.length_nil, Nat.reduceAdd, vcells_agg, hst, Option.isSome, Bool.not_true, m0, ml, ne_eq, d1, not_false_eq_true, decide_true, evalParts, e0, hs5, hl5]
   exact g5
theorem Inv.setLock (h : Inv H fl pl fc hole) (l : Int) : Inv (H.setLock l) fl pl fc hole :=
 ⟨ok_setLock h.ok, fun x hx hn => by obtain ⟨k, fam, g⟩ := h.pg x hx hn; exact ⟨k, fam, g.le, g.fams, g.all⟩, h.fmem, h.fnd, fun k hk => FL.other (h.flk k hk) rfl rfl fun _ _ _ _ => rfl, h.bits, fun x hx hn hk => by
  obtain ⟨c, s⟩ := h.sl x hx hn hk
  exact ⟨c, s.transfer rfl (Core.refl _) fun _ _ => rfl⟩, h.pmem, h.pnd, fun c hc => (h.plk c hc).congr rfl fun _ _ => ⟨rfl, rfl⟩⟩
theorem startF_lock (H : Heap) (l : Int) (a : Nat) : (H.setLock l).startF a = H.startF a := rfl
theorem setLock_id {H : Heap} (h : H.lock = 0) : (H.setLock 1).setLock 0 = H := by rw [<- h]; rfl
theorem r_UsableF (hR : HRep σ A H) (h : Inv H fl pl fc (fun _ => False)) (hl : H.lock = 0) (a : Nat) :
  Runs G0 [] 62 [.ptr (some (A .heap, 0)), .int .u64 a] σ fun r s => HRep s A H /\ r = match H.startF a with | some w => .tuple [.int .u64 w, .int .i64 0] | none => .tuple [.int .u64 0, .int .i64 1] := by
 refine runs_body g62 rfl ?_
 obtain ⟨v, σ1, ⟨R1, hv⟩, hr1⟩ := r_lock hR hl
 subst hv
 simp -implicitDefEqProofs only [go_sem, Nat.reduceEqDiff, Nat.reduceAdd]
 refine runs_ret hr1 ?_
 obtain ⟨v, σ2, ⟨hv, g2, R2⟩, hr2⟩ := R1.rgrow (r_startG R1 (h.setLock 1) a)
 rw [startF_lock] at hv
 cases hs : H.startF a with
 |some w =>
  rw [hs] at hv; simp only at hv; subst hv
  simp -implicitDefEqProofs only [go_sem, Nat.reduceEqDiff, Nat.reduceAdd]
  refine runs_ret hr2 ?_
  have hst := new_store (σ := σ2) (z := [.int .u64 0, .int .u64 0]) (vs := [.int .u64 a, .int .u64 w]) (n := 2) (by simp) rfl
  have R3 := R2.lay (n := 2) (z := [.int .u64 0, .int .u64 0]) (vs := [.int .u64 a, .int .u64 w]) (by simp) rfl
  have L3 := Lcl.lay σ2 2 [.int .u64 0, .int .u64 0] [.int .u64 a, .int .u64 w] rfl
  have m1 := L3.cell (i := 1) (by omega)
  rw [show lst [V.int .u64 a, .int .u64 w] 1 = .int .u64 w from rfl] at m1
  obtain ⟨v, σ4, ⟨R4, hv⟩, hr4⟩ := r_unlock R3 rfl
  subst hv
  simp -implicitDefEqProofs only [go_sem, Nat.reduceEqDiff, List.length_cons, List.length_nil, Nat.reduceAdd, vcells_agg, hst, m1, wpDefers_cons]
  refine ⟨.inr gUnlock, ?_⟩
  refine runs_ret hr4 ?_
  simp -implicitDefEqProofs only [go_sem, Nat.reduceEqDiff, Nat.reduceAdd]
  rw [setLock_id hl] at R4; exact R4
 |none =>
  rw [hs] at hv; simp only at hv; subst hv
  simp -implicitDefEqProofs only [go_sem, Nat.reduceEqDiff, Nat.reduceAdd]
  refine runs_ret hr2 ?_
  have hst := new_store (σ := σ2) (z := [.int .u64 0, .int .u64 0]) (vs := [.int .u64 0, .int .u64 0]) (n := 2) (by simp) rfl
  have R3 := R2.lay (n := 2) (z := [.int .u64 0, .int .u64 0]) (vs := [.int .u64 0, .int .u64 0]) (by simp) rfl
  have L3 := Lcl.lay σ2 2 [.int .u64 0, .int .u64 0] [.int .u64 0, .int .u64 0] rfl
  have m1 := L3.cell (i := 1) (by omega)
  rw [show lst [V.int .u64 0, .int .u64 0] 1 = .int .u64 0 from rfl] at m1
  obtain ⟨v, σ4, ⟨R4, hv⟩, hr4⟩ := r_unlock R3 rfl
  subst hv
  simp -implicitDefEqProofs only [go_sem, Nat.reduceEqDiff, List.length_cons, List.length_nil, Nat.reduceAdd, vcells_agg, hst, m1, wpDefers_cons]
  refine ⟨.inr gUnlock, ?_⟩
  refine runs_ret hr4 ?_
  simp -implicitDefEqProofs only [go_sem, Nat.reduceEqDiff, Nat.reduceAdd]
  rw [setLock_id hl] at R4; exact R4
theorem hung_lock (H : Heap) (p c : Nat) : (H.hung p c).lock = H.lock := by simp only [Heap.hung, Heap.setPart]; split <;> rfl
theorem unhung_lock (H : Heap) (p c : Nat) : (H.unhung p c).lock = H.lock := by
 simp only [Heap.unhung, Heap.unh2, Heap.unh1, Heap.setPage, Heap.setPart]
 split <;> split <;> rfl
theorem taken_lock (H : Heap) (p c f : Nat) (nf : Int) : (H.taken p c f nf).lock = H.lock := by
 unfold Heap.taken
 split
 ·exact unhung_lock _ _ _
 ·rfl
end
end Go.Proofs.YtlgmpheammbacaaGreatDoor
set_option maxRecDepth 1000000
namespace Go.Proofs.YtlgmpheammbacaaGreatDoor
open AM Go
noncomputable section
set_option linter.unusedVariables false
set_option linter.unusedSimpArgs false
attribute [local irreducible] T.get T.set
variable {σ : St} {A : Slot -> Nat} {H H' : Heap} {fl pl fc : Nat -> List Nat} {hole : Nat -> Prop}
theorem born_lock (H : Heap) (p c : Nat) : (H.born p c).lock = H.lock := by
 unfold Heap.born
 rw [hung_lock]
 show (H.born1 p c).lock = H.lock
 unfold Heap.born1
 have : ∀ (G : Heap) (a w n i : Nat), (G.laidN a w n i).lock = G.lock := by
  intro G a w n i
  induction i with
  |zero => rfl
  |succ i ih => exact ih
 rw [this]; rfl
def Fine (H : Heap) : Prop := ∃ fl pl fc, Inv H fl pl fc (fun _ => False)
theorem Inv.stakeF (h : Inv H fl pl fc (fun _ => False)) {c : Nat} (hc : c < 8) (d : Bool) : Fine (H.stakeF c d).1 /\ (H.stakeF c d).1.lock = H.lock := by
 unfold Heap.stakeF
 by_cases hp : 0 <= H.part c
 ·rw [if_pos hp]
  obtain ⟨p, f, r, h0, hm, hf, hfi, _⟩ := h.head_page hc hp
  have e1 : (H.part c).toNat = p := by omega
  have e2 : (H.page p).first.toNat = f := by omega
  rw [e1, e2, h.nextF hc hm hf]
  obtain ⟨pl', i⟩ := h.taken hc hm hf
  exact ⟨⟨_, _, _, i⟩, taken_lock _ _ _ _ _⟩
 ·rw [if_neg hp]
  obtain ⟨h0, hl⟩ := h.no_page hc hp
  obtain ⟨hN, fl', hI⟩ := h.needF (Nat.zero_le _) d
  have hb := hN.base
  cases ho : (H.needF 0 d).2 with
  |none => exact ⟨⟨_, _, _, hI⟩, hb.2.2.2.2.1⟩
  |some p =>
   rw [ho] at hN
   obtain ⟨hpn, gp⟩ := hN.page0 hI
   obtain ⟨i1, i2, i3, i4⟩ := hI.born hpn hc gp hl
   have w4 := (w8 hc).2.2.2.1
   have hpm : p ∈ (fun j => if j = c then [p] else pl j) c := by simp
   have hfc : (fun x => if x = p then List.range' 0 (256 / 2 ^ c) else fc x) p = 0 :: List.range' 1 (256 / 2 ^ c - 1) := by
    simp only [if_true]
    obtain ⟨m, hm⟩ : ∃ m, 256 / 2 ^ c = m + 1 := ⟨256 / 2 ^ c - 1, by omega⟩
    rw [hm, List.range'_succ]; rfl
   have hh1 : hdI (List.range' 1 (256 / 2 ^ c - 1)) (-1) = 1 := by
    obtain ⟨m, hm⟩ : ∃ m, 256 / 2 ^ c = m + 2 := ⟨256 / 2 ^ c - 2, by omega⟩
    rw [hm, show m + 2 - 1 = m + 1 by omega, List.range'_succ]; rfl
   obtain ⟨pl', i⟩ := i1.taken hc hpm hfc
   rw [hh1] at i
   exact ⟨⟨_, _, _, i⟩, by rw [taken_lock, born_lock, hb.2.2.2.2.1]⟩
def _root_.AM.Heap.mtakeF (H : Heap) (r : Nat) (deny : Bool) : Heap × Option Nat :=
 if r < 4096 then ((H.stakeF (blen (r / 16) - 1) deny).1, (H.stakeF (blen (r / 16) - 1) deny).2.map fun x => H.addr x.1 + x.2 * r)
 else ((H.needF (blen (r / 4096) - 1) deny).1, (H.needF (blen (r / 4096) - 1) deny).2.map H.addr)
theorem roundP_pow {n a : Nat} (hn : n < 18446744073709551616) (ha : a < 18446744073709551616) : ∃ b, 4 <= b /\ roundP n a = 2 ^ b := by
 unfold roundP ceilP
 have hm : 16 <= max (max n a) 16 := by omega
 rw [if_neg (by omega)]
 refine ⟨_, ?_, rfl⟩
 have h3 : 3 <= (max (max n a) 16 - 1).log2 := (Nat.le_log2 (by omega)).2 (by omega)
 unfold blen
 rw [if_neg (by omega)]; omega
theorem size_cases (ok : H.OK) {b : Nat} (hb : 4 <= b) (hle : ¬ H.rsz < 2 ^ b) : (∃ c, c < 8 /\ 2 ^ b = 16 * 2 ^ c /\ 2 ^ b < 4096 /\ blen (2 ^ b / 16) - 1 = c) \/ (∃ k, k <= H.order /\ 2 ^ b = 4096 * 2 ^ k /\ ¬ 2 ^ b < 4096 /\ blen (2 ^ b / 4096) - 1 = k) := by
 by_cases c : b < 12
 ·have e : 2 ^ b = 16 * 2 ^ (b - 4) := by rw [show (16 : Nat) = 2 ^ 4 from rfl, <- Nat.pow_add]; congr 1; omega
  refine .inl ⟨b - 4, by omega, e, ?_, ?_⟩
  ·have : 2 ^ b <= 2 ^ 11 := Nat.pow_le_pow_right (by omega) (by omega)
   omega
  ·rw [e, Nat.mul_div_cancel_left _ (by omega), blen_pow]; omega
 ·have e : 2 ^ b = 4096 * 2 ^ (b - 12) := by rw [show (4096 : Nat) = 2 ^ 12 from rfl, <- Nat.pow_add]; congr 1; omega
  refine .inr ⟨b - 12, ?_, e, ?_, ?_⟩
  ·unfold Heap.rsz at hle
   rw [e] at hle
   exact (Nat.pow_le_pow_iff_right (by omega : 1 < 2)).1 (by omega)
  ·have : 2 ^ 12 <= 2 ^ b := Nat.pow_le_pow_right (by omega) (by omega)
   omega
  ·rw [e, Nat.mul_div_cancel_left _ (by omega), blen_pow]; omega
theorem Inv.mtakeF (h : Inv H fl pl fc (fun _ => False)) {b : Nat} (hb : 4 <= b) (hle : ¬ H.rsz < 2 ^ b) (d : Bool) : Fine (H.mtakeF (2 ^ b) d).1 /\ (H.mtakeF (2 ^ b) d).1.lock = H.lock := by
 unfold Heap.mtakeF
 rcases size_cases h.ok hb hle with ⟨c, h1, h2, h3, h4⟩ | ⟨k, h1, h2, h3, h4⟩
 ·rw [if_pos h3, h4]; exact h.stakeF h1 d
 ·rw [if_neg h3, h4]
  obtain ⟨hN, fl', hI⟩ := h.needF h1 d
  exact ⟨⟨_, _, _, hI⟩, hN.base.2.2.2.2.1⟩
theorem r_mtakeF (hR : HRep σ A H) (h : Inv H fl pl fc (fun _ => False)) {b : Nat} (hb : 4 <= b) (hle : ¬ H.rsz < 2 ^ b) (d : Bool) :
  Runs G0 [] 158 [.ptr (some (A .heap, 0)), .int .u64 (2 ^ b : Nat), .bool d] σ fun r s => ∃ A', HRep s A' (H.mtakeF (2 ^ b) d).1 /\ A' .heap = A .heap ∧
   r = .tuple [.int .u64 ((match (H.mtakeF (2 ^ b) d).2 with | some x => x | none => 0 : Nat) : Int), .int .i64 (match (H.mtakeF (2 ^ b) d).2 with | some _ => 0 | none => 2)] := by
 unfold Heap.mtakeF
 rcases size_cases h.ok hb hle with ⟨c, h1, h2, h3, h4⟩ | ⟨k, h1, h2, h3, h4⟩
 ·rw [if_pos h3, h4, h2]
  obtain ⟨v, s, ⟨⟨A', st, R⟩, hv⟩, hr⟩ := r_STakeF hR h h1 d
  have hst := st .heap (by simp) (by simp) (by simp) (by simp)
  cases ho : (H.stakeF c d).2 with
  |some x =>
   rw [ho] at hv
   obtain ⟨g, rfl⟩ := hv
   refine (r_takeS hR h1 (P := fun s => ∃ A', HRep s A' (H.stakeF c d).1 /\ A' .heap = A .heap) (e := 0) ⟨_, s, ⟨⟨A', R, hst⟩, rfl⟩, hr⟩).mono ?_
   rintro v s ⟨⟨A', a1, a2⟩, rfl⟩
   exact ⟨A', a1, a2, rfl⟩
  |none =>
   rw [ho] at hv
   simp only at hv
   subst hv
   refine (r_takeS hR h1 (P := fun s => ∃ A', HRep s A' (H.stakeF c d).1 /\ A' .heap = A .heap) (a := 0) (e := 2) ⟨_, s, ⟨⟨A', R, hst⟩, rfl⟩, hr⟩).mono ?_
   rintro v s ⟨⟨A', a1, a2⟩, rfl⟩
   exact ⟨A', a1, a2, rfl⟩
 ·rw [if_neg h3, h4, h2]
  obtain ⟨v, s, ⟨⟨A', st, R⟩, hv⟩, hr⟩ := r_NeedF hR h h1 d
  have hst := st .heap (by simp) (by simp) (by simp) (by simp)
  have hk40 : k <= 40 := by have := h.ok.order_le; omega
  cases ho : (H.needF k d).2 with
  |some x =>
   rw [ho] at hv
   obtain ⟨g, rfl⟩ := hv
   refine (r_takeP hR hk40 (P := fun s => ∃ A', HRep s A' (H.needF k d).1 /\ A' .heap = A .heap) (e := 0) ⟨_, s, ⟨⟨A', R, hst⟩, rfl⟩, hr⟩).mono ?_
   rintro v s ⟨⟨A', a1, a2⟩, rfl⟩
   exact ⟨A', a1, a2, rfl⟩
  |none =>
   rw [ho] at hv
   simp only at hv
   subst hv
   refine (r_takeP hR hk40 (P := fun s => ∃ A', HRep s A' (H.needF k d).1 /\ A' .heap = A .heap) (a := 0) (e := 2) ⟨_, s, ⟨⟨A', R, hst⟩, rfl⟩, hr⟩).mono ?_
   rintro v s ⟨⟨A', a1, a2⟩, rfl⟩
   exact ⟨A', a1, a2, rfl⟩
def _root_.AM.Heap.allocF (H : Heap) (n a : Nat) (deny : Bool) : Heap × Nat × Nat :=
 if isPow a = false then (H, 0, 1)
 else if H.rsz < roundP n a then (H, 0, 3)
 else match (H.mtakeF (roundP n a) deny).2 with
  |some x => ((H.mtakeF (roundP n a) deny).1, x, 0)
  |none => ((H.mtakeF (roundP n a) deny).1, 0, 2)
theorem Inv.allocF (h : Inv H fl pl fc (fun _ => False)) {n a : Nat} (hn : n < 18446744073709551616) (ha : a < 18446744073709551616) (d : Bool) : Fine (H.allocF n a d).1 /\ (H.allocF n a d).1.lock = H.lock := by
 unfold Heap.allocF
 by_cases c : isPow a = false
 ·rw [if_pos c]; exact ⟨⟨_, _, _, h⟩, rfl⟩
 ·rw [if_neg c]
  by_cases c2 : H.rsz < roundP n a
  ·rw [if_pos c2]; exact ⟨⟨_, _, _, h⟩, rfl⟩
  ·rw [if_neg c2]
   obtain ⟨b, hb, e⟩ := roundP_pow hn ha
   rw [e] at c2 ⊢
   have := h.mtakeF hb c2 d
   split <;> exact this
theorem r_mallocF (hR : HRep σ A H) (h : Inv H fl pl fc (fun _ => False)) {n a : Nat} (hn : n < 18446744073709551616) (ha : a < 18446744073709551616) (d : Bool) :
  Runs G0 [] 121 [.ptr (some (A .heap, 0)), .int .u64 n, .int .u64 a, .bool d] σ fun r s => ∃ A', HRep s A' (H.allocF n a d).1 /\ A' .heap = A .heap ∧
   r = .tuple [.agg [.int .u64 (H.allocF n a d).2.1, .int .u64 ((if (H.allocF n a d).2.2 = 0 then roundP n a else 0 : Nat) : Int)], .int .i64 (H.allocF n a d).2.2] := by
 unfold Heap.allocF
 by_cases c : isPow a = false
 ·rw [if_pos c]
  refine ((hR.rgrow (r_mallocE hR h.ok (d := .bool d) hn ha (.inl c)))).mono ?_
  rintro v s ⟨rfl, _, R⟩
  rw [if_pos c]
  exact ⟨A, R, rfl, rfl⟩
 ·rw [if_neg c]
  by_cases c2 : H.rsz < roundP n a
  ·rw [if_pos c2]
   refine ((hR.rgrow (r_mallocE hR h.ok (d := .bool d) hn ha (.inr c2)))).mono ?_
   rintro v s ⟨rfl, _, R⟩
   rw [if_neg c]
   exact ⟨A, R, rfl, rfl⟩
  ·rw [if_neg c2]
   obtain ⟨b, hb, e⟩ := roundP_pow hn ha
   have c3 := c2
   rw [e] at c3
   have key : ∀ s, HRep s A H -> Runs G0 [] 158 [.ptr (some (A .heap, 0)), .int .u64 (roundP n a), .bool d] s fun r s' => ∃ A', HRep s' A' (H.mtakeF (roundP n a) d).1 /\ A' .heap = A .heap ∧
     r = .tuple [.int .u64 ((match (H.mtakeF (roundP n a) d).2 with | some x => x | none => 0 : Nat) : Int), .int .i64 (match (H.mtakeF (roundP n a) d).2 with | some _ => 0 | none => 2)] := by
    intro s R
    have := r_mtakeF R h hb c3 d
    rw [<- e] at this
    exact this
   have hp : isPow a = true := by cases hx : isPow a; exact (c hx).elim; rfl
   cases ho : (H.mtakeF (roundP n a) d).2 with
   |some x =>
    rw [ho] at key
    exact r_malloc (e := 0) hR h.ok hn ha hp c2 key
   |none =>
    rw [ho] at key
    exact r_malloc (adr := (0 : Nat)) (e := 2) hR h.ok hn ha hp c2 key
def _root_.AM.Heap.held (H : Heap) : Heap := H.setLock 1
theorem r_AllocF (hR : HRep σ A H) (h : Inv H fl pl fc (fun _ => False)) (hl : H.lock = 0) {n a : Nat} (hn : n < 18446744073709551616) (ha : a < 18446744073709551616) (d : Bool) :
  Runs G0 [] 61 [.ptr (some (A .heap, 0)), .int .u64 a, .int .u64 n, .bool d] σ fun r s => ∃ A', HRep s A' ((H.held.allocF n a d).1.setLock 0) /\ A' .heap = A .heap /\ r = .tuple [.int .u64 (H.held.allocF n a d).2.1, .int .i64 (H.held.allocF n a d).2.2] := by
 have h1 := h.setLock 1
 exact r_AlignedAlloc hR hl (h1.allocF hn ha d).2 fun s R => r_mallocF R h1 hn ha d
end
end Go.Proofs.YtlgmpheammbacaaGreatDoor
