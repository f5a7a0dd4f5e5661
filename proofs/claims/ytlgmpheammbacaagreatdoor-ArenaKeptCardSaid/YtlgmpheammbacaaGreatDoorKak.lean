import Derived.Test.YtlgmpheammbacaaGreatDoorKaj
set_option maxRecDepth 1000000
namespace Go.Proofs.YtlgmpheammbacaaGreatDoor
open AM Go
noncomputable section
set_option linter.unusedVariables false
set_option linter.unusedSimpArgs false
variable {H H' : Heap} {fl pl fc : Nat -> List Nat} {hole : Nat -> Prop}
def LiveAt (H : Heap) (x a s : Nat) : Prop :=
 ((H.page x).kind = 2 /\ ∃ k : Nat, (H.page x).order = (k : Int) /\ a = H.addr x /\ s = 4096 * 2 ^ k) ∨
 ((H.page x).kind = 4 /\ ∃ c q : Nat, (H.page x).cls = (c : Int) /\ q < 256 / 2 ^ c /\ (H.page x).bit q = 1 /\ a = H.addr x + q * (16 * 2 ^ c) /\ s = 16 * 2 ^ c)
def LiveB (H : Heap) (a s : Nat) : Prop := ∃ x, x < H.np /\ LiveAt H x a s
theorem Inv.start_of (h : Inv H fl pl fc (fun _ => False)) {a s : Nat} (hl : LiveB H a s) : H.startF a = some s := by
 obtain ⟨x, hx, hl⟩ := hl
 have hfn := fin_np H
 obtain ⟨k, fam, g⟩ := h.pg x hx (fun e => e)
 unfold Heap.startF Heap.blockF
 rcases hl with ⟨h2, j, h3, h4, h5⟩ | ⟨h4, c, q, h5, h6, h7, h8, h9⟩
 ·have hjk : j = k := by have := g.order; omega
  subst hjk
  obtain ⟨_, al⟩ := g.two h2
  have e1 : (a - H.base) / 4096 = x := by rw [h4]; unfold Heap.addr; omega
  have hna : ¬ (a < H.base \/ H.fin <= a) := by rw [h4]; unfold Heap.addr; omega
  rw [if_neg hna, e1, if_neg (by omega), if_pos (.inl h2), show (H.page x).order.toNat = j by omega, al_mul al]
  simp only
  rw [if_pos h4.symm, h5]
 ·have s := h.slab hx (fun e => e) h4 h5
  have hf := cell_fits s.c8 h6
  have hw := w8 s.c8
  have e1 : (a - H.base) / 4096 = x := by rw [h8]; unfold Heap.addr; omega
  have e2 : (a - H.base) % 4096 = q * (16 * 2 ^ c) := by rw [h8]; unfold Heap.addr; omega
  have hna : ¬ (a < H.base \/ H.fin <= a) := by rw [h8]; unfold Heap.addr; omega
  rw [if_neg hna, e1, e2, if_pos h4, show (H.page x).cls.toNat = c by omega, Nat.mul_div_cancel _ (by omega), if_pos h7]
  simp only
  rw [if_pos h8.symm, h9]
theorem LiveAt.congr {x a s : Nat} (hb : H'.base = H.base) (hc : Core (H.page x) (H'.page x)) : LiveAt H' x a s ↔ LiveAt H x a s := by
 have ha : H'.addr x = H.addr x := by unfold Heap.addr; rw [hb]
 unfold LiveAt
 rw [hc.kind, hc.order, hc.cls, ha]
 simp only [hc.bit]
theorem LiveAt.free {x a s : Nat} (h : IsFr H x) : ¬ LiveAt H x a s := by
 unfold IsFr at h
 rintro (⟨h2, _⟩ | ⟨h4, _⟩) <;> omega
theorem Took.live {k p : Nat} (t : Took H H' k p) {a s : Nat} : LiveB H' a s ↔ LiveB H a s \/ (a = H.addr p /\ s = 4096 * 2 ^ k) := by
 have sm := t.same
 have hpos := pow_pos' k
 constructor
 ·rintro ⟨x, hx, hl⟩
  rw [sm.np] at hx
  by_cases c : x / 2 ^ k = p / 2 ^ k
  ·have e := t.is x c
   by_cases d : x = p
   ·subst d
    rw [if_pos rfl] at e
    rcases hl with ⟨h2, j, h3, h4, h5⟩ | ⟨h4, _⟩
    ·rw [e] at h3
     have h3' : (k : Int) = (j : Int) := h3
     have : k = j := by omega
     subst this
     exact .inr ⟨by rw [h4, sm.addr], h5⟩
    ·rw [e] at h4; have h4' : (2 : Int) = 4 := h4; omega
   ·rw [if_neg d] at e
    rcases hl with ⟨h2, _⟩ | ⟨h4, _⟩
    ·rw [e] at h2; have h2' : (2 : Int) + 1 = 2 := h2; omega
    ·rw [e] at h4; have h4' : (2 : Int) + 1 = 4 := h4; omega
  ·by_cases f : IsFr H x
   ·exact (LiveAt.free (t.free x hx f c) hl).elim
   ·obtain ⟨e, _⟩ := t.held x hx f
    exact .inl ⟨x, hx, (LiveAt.congr sm.base (e ▸ Core.refl _)).1 hl⟩
 ·rintro (⟨x, hx, hl⟩ | ⟨rfl, rfl⟩)
  ·by_cases f : IsFr H x
   ·exact (LiveAt.free f hl).elim
   ·obtain ⟨e, _⟩ := t.held x hx f
    exact ⟨x, by rw [sm.np]; exact hx, (LiveAt.congr sm.base (e ▸ Core.refl _)).2 hl⟩
  ·have e := t.is p rfl
   rw [if_pos rfl] at e
   exact ⟨p, by rw [sm.np]; have := t.le; omega, .inl ⟨by rw [e]; rfl, k, by rw [e]; rfl, by rw [sm.addr], rfl⟩⟩
theorem Grew.live (g : Grew H H') {a s : Nat} : LiveB H' a s ↔ LiveB H a s := by
 have hnp := g.np
 have hpos := pow_pos' H.order
 constructor
 ·rintro ⟨x, hx, hl⟩
  rw [hnp] at hx
  by_cases c : x < H.np
  ·by_cases f : IsFr H x
   ·exact (LiveAt.free (g.free x c f) hl).elim
   ·obtain ⟨e, _⟩ := g.held x c f
    exact ⟨x, c, (LiveAt.congr g.base (e ▸ Core.refl _)).1 hl⟩
  ·exact (LiveAt.free (g.new x (by omega) hx) hl).elim
 ·rintro ⟨x, hx, hl⟩
  by_cases f : IsFr H x
  ·exact (LiveAt.free f hl).elim
  ·obtain ⟨e, _⟩ := g.held x hx f
   exact ⟨x, by rw [hnp]; omega, (LiveAt.congr g.base (e ▸ Core.refl _)).2 hl⟩
theorem Needed.live {k p : Nat} {d : Bool} (n : Needed H k d H' (some p)) {a s : Nat} : LiveB H' a s ↔ LiveB H a s \/ (a = H.addr p /\ s = 4096 * 2 ^ k) := by
 cases n with
 |old _ t => exact t.live
 |grew _ _ _ g t => rw [t.live, g.live, g.addr]
def Bytes (H H' : Heap) : Prop := ∀ a s, LiveB H a s -> ∀ i, i < s -> H'.mem (a - H.base + i) = H.mem (a - H.base + i)
theorem Inv.live_pages (h : Inv H fl pl fc (fun _ => False)) {x a s : Nat} (hx : x < H.np) (hl : LiveAt H x a s) {i : Nat} (hi : i < s) :
  ∃ y j, a - H.base + i = 4096 * y + j /\ j < 4096 /\ y < H.np /\ ¬ IsFr H y /\ ((H.page x).kind = 4 -> y = x) := by
 obtain ⟨k, fam, g⟩ := h.pg x hx (fun e => e)
 rcases hl with ⟨h2, j, h3, h4, h5⟩ | ⟨h4, c, q, h5, h6, h7, h8, h9⟩
 ·have hjk : j = k := by have := g.order; omega
  subst hjk
  obtain ⟨rfl, al⟩ := g.two h2
  have hy : (x + i / 4096) / 2 ^ j = x / 2 ^ j := (blk_iff al).2 ⟨by omega, by rw [h5] at hi; have : i / 4096 < 2 ^ j := Nat.div_lt_of_lt_mul hi; omega⟩
  refine ⟨x + i / 4096, i % 4096, by rw [h4]; unfold Heap.addr; omega, by omega, blk_lt g.le hx hy, ?_, fun e => by omega⟩
  unfold IsFr
  rcases g.kinds hy with e | e <;> omega
 ·have s := h.slab hx (fun e => e) h4 h5
  have hf := cell_fits s.c8 h6
  refine ⟨x, q * (16 * 2 ^ c) + i, by rw [h8]; unfold Heap.addr; omega, by omega, hx, ?_, fun _ => rfl⟩
  unfold IsFr; omega
theorem Took.bytes (h : Inv H fl pl fc (fun _ => False)) {k p : Nat} (t : Took H H' k p) : Bytes H H' := by
 rintro a s ⟨x, hx, hl⟩ i hi
 obtain ⟨y, j, e, hj, hy, hf, _⟩ := h.live_pages hx hl hi
 rw [e]; exact (t.held y hy hf).2 j hj
theorem Grew.bytes (h : Inv H fl pl fc (fun _ => False)) (g : Grew H H') : Bytes H H' := by
 rintro a s ⟨x, hx, hl⟩ i hi
 obtain ⟨y, j, e, hj, hy, hf, _⟩ := h.live_pages hx hl hi
 rw [e]; exact (g.held y hy hf).2 j hj
theorem Needed.bytes (h : Inv H fl pl fc (fun _ => False)) {k : Nat} {d : Bool} {o : Option Nat} (n : Needed H k d H' o) : Bytes H H' := by
 cases n with
 |old _ t => exact t.bytes h
 |grew _ _ hlt g t =>
  intro a s hl i hi
  have h1 := g.bytes h a s hl i hi
  have h2 := t.bytes (h.fed hlt).1 a s (g.live.2 hl) i hi
  rw [g.base] at h2
  exact h2.trans h1
 |none _ _ => exact fun _ _ _ _ _ => rfl
theorem Inv.apart (h : Inv H fl pl fc (fun _ => False)) {a s b t : Nat} (h1 : LiveB H a s) (h2 : LiveB H b t) (hne : a ≠ b) : a + s <= b \/ b + t <= a := by
 obtain ⟨x, hx, hx2⟩ := h1
 obtain ⟨y, hy, hy2⟩ := h2
 obtain ⟨k, fam, g⟩ := h.pg x hx (fun e => e)
 obtain ⟨j, fam', g'⟩ := h.pg y hy (fun e => e)
 have cells : ∀ {x a s k fam}, PgOk H (fun _ => False) x k fam -> x < H.np -> LiveAt H x a s -> H.addr (x / 2 ^ k * 2 ^ k) <= a /\ a + s <= H.addr (x / 2 ^ k * 2 ^ k + 2 ^ k) := by
  intro x a s k fam g hx hl
  rcases hl with ⟨h2, j, h3, h4, h5⟩ | ⟨h4, c, q, h5, h6, h7, h8, h9⟩
  ·have hjk : j = k := by have := g.order; omega
   subst hjk
   obtain ⟨rfl, al⟩ := g.two h2
   rw [al_mul al, h4, h5]
   unfold Heap.addr
   omega
  ·obtain ⟨rfl, rfl⟩ := g.four h4
   have s := h.slab hx (fun e => e) h4 h5
   have hf := cell_fits s.c8 h6
   have e : x / 2 ^ 0 * 2 ^ 0 = x := by simp
   rw [e, h8, h9]
   have : (2 : Nat) ^ 0 = 1 := rfl
   unfold Heap.addr; omega
 by_cases c : x / 2 ^ k = y / 2 ^ k /\ k = j
 ·obtain ⟨c1, rfl⟩ := c
  rcases hx2 with ⟨h2, i, h3, h4, h5⟩ | ⟨h4, c, q, h5, h6, h7, h8, h9⟩
  ·obtain ⟨rfl, al⟩ := g.two h2
   rcases hy2 with ⟨k2, i', k3, k4, k5⟩ | ⟨k4, _⟩
   ·obtain ⟨rfl, al'⟩ := g'.two k2
    have := blk_eq al' al c1
    subst this
    omega
   ·obtain ⟨_, rfl⟩ := g'.four k4
    have : x = y := by simpa using c1
    subst this; omega
  ·obtain ⟨rfl, rfl⟩ := g.four h4
   have hxy : x = y := by simpa using c1
   subst hxy
   rcases hy2 with ⟨k2, _⟩ | ⟨k4, c', q', k5, k6, k7, k8, k9⟩
   ·omega
   ·have : c' = c := by omega
    subst this
    have hqq : q ≠ q' := by intro e; subst e; omega
    rcases Nat.lt_or_gt_of_ne hqq with l | l
    ·left
     have := Nat.mul_le_mul_right (16 * 2 ^ c') (show q + 1 <= q' by omega)
     rw [Nat.add_mul] at this; omega
    ·right
     have := Nat.mul_le_mul_right (16 * 2 ^ c') (show q' + 1 <= q by omega)
     rw [Nat.add_mul] at this; omega
 ·have b1 := cells g hx hx2
  have b2 := cells g' hy hy2
  have al1 : x / 2 ^ k * 2 ^ k % 2 ^ k = 0 := Nat.mul_mod_left _ _
  have al2 : y / 2 ^ j * 2 ^ j % 2 ^ j = 0 := Nat.mul_mod_left _ _
  have p1 := pow_pos' k
  have p2 := pow_pos' j
  have d1 : x / 2 ^ k * 2 ^ k / 2 ^ k = x / 2 ^ k := Nat.mul_div_cancel _ p1
  have d2 : y / 2 ^ j * 2 ^ j / 2 ^ j = y / 2 ^ j := Nat.mul_div_cancel _ p2
  have key : ∀ z, ¬ (z / 2 ^ k = x / 2 ^ k /\ z / 2 ^ j = y / 2 ^ j) := by
   rintro z ⟨z1, z2⟩
   obtain ⟨e1, e2⟩ := g.one g' z1 z2
   exact c ⟨e2, e1⟩
  have far : x / 2 ^ k * 2 ^ k + 2 ^ k <= y / 2 ^ j * 2 ^ j \/ y / 2 ^ j * 2 ^ j + 2 ^ j <= x / 2 ^ k * 2 ^ k := by
   rcases Nat.lt_or_ge (x / 2 ^ k * 2 ^ k) (y / 2 ^ j * 2 ^ j) with l | l
   ·left
    refine Nat.le_of_not_lt fun hlt => ?_
    refine key (y / 2 ^ j * 2 ^ j) ⟨?_, d2⟩
    rw [<- d1]; exact (blk_iff al1).2 ⟨by omega, hlt⟩
   ·right
    refine Nat.le_of_not_lt fun hlt => ?_
    refine key (x / 2 ^ k * 2 ^ k) ⟨d1, ?_⟩
    rw [<- d2]; exact (blk_iff al2).2 ⟨l, hlt⟩
  unfold Heap.addr at b1 b2
  omega
end
end Go.Proofs.YtlgmpheammbacaaGreatDoor
set_option maxRecDepth 1000000
namespace Go.Proofs.YtlgmpheammbacaaGreatDoor
open AM Go
noncomputable section
set_option linter.unusedVariables false
set_option linter.unusedSimpArgs false
variable {H H' : Heap} {fl pl fc : Nat -> List Nat} {hole : Nat -> Prop}
def Full (H : Heap) : Prop := ∀ x, x < H.np -> (H.page x).kind = 4 -> 1 <= (H.page x).live
theorem Took.fresh (h : Inv H fl pl fc (fun _ => False)) {k p : Nat} (t : Took H H' k p) {a s : Nat} (hl : LiveB H a s) : a + s <= H.addr p \/ H.addr p + 4096 * 2 ^ k <= a := by
 obtain ⟨x, hx, hl⟩ := hl
 have hpos : 0 < s := by
  rcases hl with ⟨_, j, _, _, h5⟩ | ⟨_, c, q, _, _, _, _, h9⟩
  ·have := pow_pos' j; omega
  ·have := pow_pos' c; omega
 have hab : H.base <= a := by
  rcases hl with ⟨_, j, _, h4, _⟩ | ⟨_, c, q, _, _, _, h8, _⟩
  ·rw [h4]; unfold Heap.addr; omega
  ·rw [h8]; unfold Heap.addr; omega
 have al := t.al
 refine Decidable.byContradiction fun hn => ?_
 obtain ⟨i, hi, hlo, hhi⟩ : ∃ i, i < s /\ H.addr p <= a + i /\ a + i < H.addr p + 4096 * 2 ^ k := by
  rcases Nat.lt_or_ge a (H.addr p) with c | c
  ·exact ⟨H.addr p - a, by omega, by omega, by have := pow_pos' k; omega⟩
  ·exact ⟨0, hpos, by omega, by omega⟩
 obtain ⟨y, j, e, hj, hy, hf, _⟩ := h.live_pages hx hl hi
 refine hf (t.was y ((blk_iff al).2 ?_))
 unfold Heap.addr at hlo hhi
 omega
theorem Needed.fresh (h : Inv H fl pl fc (fun _ => False)) {k p : Nat} {d : Bool} (n : Needed H k d H' (some p)) {a s : Nat} (hl : LiveB H a s) : a + s <= H.addr p \/ H.addr p + 4096 * 2 ^ k <= a := by
 cases n with
 |old _ t => exact t.fresh h hl
 |grew _ _ hlt g t => have := t.fresh (h.fed hlt).1 (g.live.2 hl); rw [g.addr] at this; exact this
theorem Took.full {k p : Nat} (t : Took H H' k p) (hf : Full H) : Full H' := by
 intro x hx hk
 rw [t.same.np] at hx
 by_cases c : x / 2 ^ k = p / 2 ^ k
 ·have e := t.is x c
  by_cases d : x = p
  ·rw [if_pos d] at e; rw [e] at hk; have h2 : (2 : Int) = 4 := hk; omega
  ·rw [if_neg d] at e; rw [e] at hk; have h2 : (2 : Int) + 1 = 4 := hk; omega
 ·by_cases f : IsFr H x
  ·have := t.free x hx f c
   unfold IsFr at this; omega
  ·obtain ⟨e, _⟩ := t.held x hx f
   rw [e] at hk ⊢
   exact hf x hx hk
theorem Grew.full (g : Grew H H') (hf : Full H) : Full H' := by
 intro x hx hk
 rw [g.np] at hx
 by_cases c : x < H.np
 ·by_cases f : IsFr H x
  ·have := g.free x c f
   unfold IsFr at this; omega
  ·obtain ⟨e, _⟩ := g.held x c f
   rw [e] at hk ⊢
   exact hf x c hk
 ·have := g.new x (by omega) hx
  unfold IsFr at this; omega
theorem Needed.full {k : Nat} {d : Bool} {o : Option Nat} (n : Needed H k d H' o) (hf : Full H) : Full H' := by
 cases n with
 |old _ t => exact t.full hf
 |grew _ _ _ g t => exact t.full (g.full hf)
 |none _ _ => exact hf
theorem live_own {p c f : Nat} {b : Bool} (hb : H'.base = H.base) (hk : (H'.page p).kind = (H.page p).kind) (h4 : (H.page p).kind = 4) (hc : (H'.page p).cls = (H.page p).cls) (hcl : (H.page p).cls = (c : Int)) (hc8 : c < 8)
  (hbw : ∀ j, (H'.page p).bw j = ((H.page p).own f b).bw j) (hf : f < 256 / 2 ^ c) (hbit : (H.page p).bit f = if b = true then 0 else 1) {a s : Nat} :
  LiveAt H' p a s ↔ if b = true then LiveAt H p a s \/ (a = H.addr p + f * (16 * 2 ^ c) /\ s = 16 * 2 ^ c) else LiveAt H p a s /\ a ≠ H.addr p + f * (16 * 2 ^ c) := by
 have ha : H'.addr p = H.addr p := by unfold Heap.addr; rw [hb]
 have hw := w8 hc8
 have hbits : ∀ q, q < 256 / 2 ^ c -> (H'.page p).bit q = if q = f then 1 - (H.page p).bit f else (H.page p).bit q := by
  intro q hq
  have : (H'.page p).bit q = ((H.page p).own f b).bit q := by unfold Page.bit; rw [hbw]
  rw [this, bit_own _ _ (by omega) (by omega)]
 have hcu : ∀ {c' : Nat}, (H.page p).cls = (c' : Int) -> c' = c := fun e => by omega
 cases b with
 |true =>
  simp only [if_true] at hbit ⊢
  constructor
  ·rintro (⟨h2, _⟩ | ⟨_, c', q, k5, k6, k7, k8, k9⟩)
   ·omega
   ·rw [hc] at k5
    obtain rfl := hcu k5
    rw [ha] at k8
    by_cases e : q = f
    ·subst e; exact .inr ⟨k8, k9⟩
    ·rw [hbits q k6, if_neg e] at k7
     exact .inl (.inr ⟨h4, c', q, k5, k6, k7, k8, k9⟩)
  ·rintro ((⟨h2, _⟩ | ⟨_, c', q, k5, k6, k7, k8, k9⟩) | ⟨rfl, rfl⟩)
   ·omega
   ·obtain rfl := hcu k5
    refine .inr ⟨hk.trans h4, c', q, hc.trans k5, k6, ?_, by rw [ha]; exact k8, k9⟩
    rw [hbits q k6]
    by_cases e : q = f
    ·subst e; omega
    ·rw [if_neg e]; exact k7
   ·exact .inr ⟨hk.trans h4, c, f, hc.trans hcl, hf, by rw [hbits f hf, if_pos rfl, hbit], by rw [ha], rfl⟩
 |false =>
  simp only [Bool.false_eq_true, if_false] at hbit ⊢
  constructor
  ·rintro (⟨h2, _⟩ | ⟨_, c', q, k5, k6, k7, k8, k9⟩)
   ·omega
   ·rw [hc] at k5
    obtain rfl := hcu k5
    rw [ha] at k8
    by_cases e : q = f
    ·subst e; rw [hbits q k6, if_pos rfl, hbit] at k7; omega
    ·rw [hbits q k6, if_neg e] at k7
     refine ⟨.inr ⟨h4, c', q, k5, k6, k7, k8, k9⟩, fun e2 => e ?_⟩
     rw [k8] at e2
     exact Nat.eq_of_mul_eq_mul_right (by omega : 0 < 16 * 2 ^ c') (by omega)
  ·rintro ⟨⟨h2, _⟩ | ⟨_, c', q, k5, k6, k7, k8, k9⟩, hne⟩
   ·omega
   ·obtain rfl := hcu k5
    refine .inr ⟨hk.trans h4, c', q, hc.trans k5, k6, ?_, by rw [ha]; exact k8, k9⟩
    have e : q ≠ f := by rintro rfl; exact hne k8
    rw [hbits q k6, if_neg e]; exact k7
theorem taken_page' (H : Heap) (p c f : Nat) (nf : Int) : ((H.taken p c f nf).page p).cls = (H.page p).cls /\ (∀ j, ((H.taken p c f nf).page p).bw j = ((H.page p).own f true).bw j) /\ ((H.taken p c f nf).page p).live = (H.page p).live + 1 /\ (H.taken p c f nf).mem = H.mem := by
 have e1 : (H.taken1 p f nf).page p = { (H.page p).own f true with first := nf } := by rw [taken1_page, if_pos rfl]
 unfold Heap.taken
 by_cases e : nf < 0
 ·rw [if_pos e]
  have k := core_unhung (H.taken1 p f nf) p c p
  refine ⟨k.cls.trans (by rw [e1]; rfl), fun j => (k.bw j).trans (by rw [e1]; rfl), k.live.trans (by rw [e1]; rfl), ?_⟩
  simp only [Heap.unhung, Heap.unh2, Heap.unh1, Heap.setPage, Heap.setPart]
  split <;> split <;> rfl
 ·rw [if_neg e, e1]; exact ⟨rfl, fun _ => rfl, rfl, rfl⟩
theorem taken_live {p c f : Nat} {nf : Int} (t : H.TakeOk p c f nf) {a s : Nat} : LiveB (H.taken p c f nf) a s ↔ LiveB H a s \/ (a = H.addr p + f * (16 * 2 ^ c) /\ s = 16 * 2 ^ c) := by
 have w := taken_cellular H p c f nf
 obtain ⟨e1, e2, e3, e4⟩ := taken_page' H p c f nf
 have hp := live_own (H' := H.taken p c f nf) (b := true) w.same.base w.kind t.kind e1 t.cls t.cls8 e2 t.cell (by rw [t.free]; rfl) (a := a) (s := s)
 rw [if_pos rfl] at hp
 constructor
 ·rintro ⟨x, hx, hl⟩
  rw [w.same.np] at hx
  by_cases e : x = p
  ·subst e
   rcases hp.1 hl with k | k
   ·exact .inl ⟨x, hx, k⟩
   ·exact .inr k
  ·exact .inl ⟨x, hx, (LiveAt.congr w.same.base (w.core x e)).1 hl⟩
 ·rintro (⟨x, hx, hl⟩ | k)
  ·by_cases e : x = p
   ·subst e; exact ⟨x, by rw [w.same.np]; exact hx, hp.2 (.inl hl)⟩
   ·exact ⟨x, by rw [w.same.np]; exact hx, (LiveAt.congr w.same.base (w.core x e)).2 hl⟩
  ·exact ⟨p, by rw [w.same.np]; exact t.page, hp.2 (.inr k)⟩
theorem taken_full {p c f : Nat} {nf : Int} (t : H.TakeOk p c f nf) (hf : ∀ x, x < H.np -> x ≠ p -> (H.page x).kind = 4 -> 1 <= (H.page x).live) : Full (H.taken p c f nf) := by
 have w := taken_cellular H p c f nf
 obtain ⟨e1, e2, e3, e4⟩ := taken_page' H p c f nf
 intro x hx hk
 rw [w.same.np] at hx
 by_cases e : x = p
 ·subst e; rw [e3]; have := t.live.1; omega
 ·rw [(w.core x e).kind] at hk
  rw [(w.core x e).live]; exact hf x hx e hk
structure Celled (H H' : Heap) (p q c : Nat) : Prop where
 live : ∀ a s, LiveB H' a s ↔ LiveB H a s \/ (a = H.addr p + q * (16 * 2 ^ c) /\ s = 16 * 2 ^ c)
 bytes : Bytes H H'
 full : Full H -> Full H'
 new : ∀ a s, LiveB H a s -> a + s <= H.addr p + q * (16 * 2 ^ c) \/ H.addr p + q * (16 * 2 ^ c) + 16 * 2 ^ c <= a
 cell : q < 256 / 2 ^ c
 page : p < H'.np
theorem Inv.celled (h : Inv H fl pl fc (fun _ => False)) {c : Nat} (hc : c < 8) (d : Bool) : match (H.stakeF c d).2 with
  |some x => Celled H (H.stakeF c d).1 x.1 x.2 c /\ ((0 <= H.part c /\ (H.stakeF c d).1.Same H) \/ (¬ 0 <= H.part c /\ ∃ H1, Needed H 0 d H1 (some x.1) /\ (H.stakeF c d).1.Same H1))
  |none => (H.stakeF c d).1 = H /\ ¬ 0 <= H.part c /\ Needed H 0 d H none := by
 unfold Heap.stakeF
 by_cases hp : 0 <= H.part c
 ·rw [if_pos hp]
  obtain ⟨p, f, r, h0, hm, hf, hfi, _⟩ := h.head_page hc hp
  have e1 : (H.part c).toNat = p := by omega
  have e2 : (H.page p).first.toNat = f := by omega
  rw [e1, e2, h.nextF hc hm hf]
  have t := h.takeOk hc hm hf
  obtain ⟨k1, k2, k3, k4⟩ := taken_page' H p c f (hdI r (-1))
  have w := taken_cellular H p c f (hdI r (-1))
  show Celled H (H.taken p c f (hdI r (-1))) p f c /\ ((0 <= H.part c /\ (H.taken p c f (hdI r (-1))).Same H) \/ _)
  refine ⟨⟨fun a s => taken_live t, fun a s _ i _ => by rw [k4], fun hfu => taken_full t fun x hx _ hk => hfu x hx hk, fun a s hl => ?_, t.cell, by rw [w.same.np]; exact t.page⟩, .inl ⟨hp, w.same⟩⟩
  obtain ⟨pl', i⟩ := h.taken hc hm hf
  have n1 : LiveB (H.taken p c f (hdI r (-1))) (H.addr p + f * (16 * 2 ^ c)) (16 * 2 ^ c) := (taken_live t).2 (.inr ⟨rfl, rfl⟩)
  have n2 : LiveB (H.taken p c f (hdI r (-1))) a s := (taken_live t).2 (.inl hl)
  refine i.apart n2 n1 ?_
  rintro rfl
  have hs := h.start_of hl
  obtain ⟨x, hx, hla⟩ := hl
  have hfit := cell_fits hc t.cell
  have hw := w8 hc
  have hxp : x = p := by
   obtain ⟨y, j, e, hj, hy, hfr, hyx⟩ := h.live_pages hx hla (i := 0) (by
    rcases hla with ⟨_, j, _, _, h5⟩ | ⟨_, c', q, _, _, _, _, h9⟩
    ·have := pow_pos' j; omega
    ·have := pow_pos' c'; omega)
   have hyp : y = p := by unfold Heap.addr at e; omega
   rcases hla with ⟨h2, j', h3, h4, h5⟩ | ⟨h4, _⟩
   ·obtain ⟨k, fam, g⟩ := h.pg x hx (fun e => e)
    obtain ⟨k', fam', g'⟩ := h.pg p t.page (fun e => e)
    obtain ⟨_, rfl⟩ := g'.four t.kind
    have : H.addr x = H.addr p + f * (16 * 2 ^ c) := h4.symm
    unfold Heap.addr at this
    omega
   ·exact (hyx h4).symm.trans hyp
  subst hxp
  rcases hla with ⟨h2, _⟩ | ⟨_, c', q, k5, k6, k7, k8, k9⟩
  ·have := t.kind; omega
  ·have : c' = c := by have := t.cls; omega
   subst this
   have : q = f := Nat.eq_of_mul_eq_mul_right (by omega : 0 < 16 * 2 ^ c') (by omega)
   subst this
   have := t.free; omega
 ·rw [if_neg hp]
  obtain ⟨h0, hl⟩ := h.no_page hc hp
  obtain ⟨hN, fl', hI⟩ := h.needF (Nat.zero_le _) d
  have hb := hN.base
  cases ho : (H.needF 0 d).2 with
  |none =>
   rw [ho] at hN
   simp only
   have : (H.needF 0 d).1 = H := by
    generalize (H.needF 0 d).1 = X at hN
    cases hN; rfl
   rw [this] at hN ⊢
   exact ⟨rfl, hp, hN⟩
  |some p =>
   rw [ho] at hN
   simp only
   obtain ⟨hpn, gp⟩ := hN.page0 hI
   obtain ⟨H1, hH1⟩ : ∃ H1, H1 = (H.needF 0 d).1 := ⟨_, rfl⟩
   rw [<- hH1] at hN hI hpn gp hb ⊢
   obtain ⟨i1, i2, i3, i4⟩ := hI.born hpn hc gp hl
   have hw := w8 hc
   have hpm : p ∈ (fun j => if j = c then [p] else pl j) c := by simp
   have hfc : (fun x => if x = p then List.range' 0 (256 / 2 ^ c) else fc x) p = 0 :: List.range' 1 (256 / 2 ^ c - 1) := by
    simp only [if_true]
    obtain ⟨m, hm⟩ : ∃ m, 256 / 2 ^ c = m + 1 := ⟨256 / 2 ^ c - 1, by omega⟩
    rw [hm, List.range'_succ]; rfl
   have hh1 : hdI (List.range' 1 (256 / 2 ^ c - 1)) (-1) = 1 := by
    obtain ⟨m, hm⟩ : ∃ m, 256 / 2 ^ c = m + 2 := ⟨256 / 2 ^ c - 2, by omega⟩
    rw [hm, show m + 2 - 1 = m + 1 by omega, List.range'_succ]; rfl
   have t := i1.takeOk hc hpm hfc
   rw [hh1] at t
   obtain ⟨k1, k2, k3, k4⟩ := taken_page' (H1.born p c) p c 0 1
   have w := taken_cellular (H1.born p c) p c 0 1
   have ea : (H1.born p c).addr p = H.addr p := by rw [i3.addr]; unfold Heap.addr; rw [hb.1]
   have empty : ∀ a s, ¬ LiveAt (H1.born p c) p a s := by
    have s := i1.slab (p := p) (by rw [i3.np]; exact hpn) (fun e => e) t.kind t.cls
    rintro a s' (⟨h2, _⟩ | ⟨_, c', q, k5, k6, k7, _⟩)
    ·have := t.kind; omega
    ·have : c' = c := by have := t.cls; omega
     subst this
     have hb2 := s.bit q k6
     rw [if_pos rfl] at hb2
     rw [if_pos (by rw [List.mem_range'_1]; omega)] at hb2
     omega
   have hp1 : ∀ a s, LiveAt H1 p a s -> a = H.addr p /\ s = 4096 := by
    intro a s hla
    have e := hN.is.2 p rfl
    rw [if_pos rfl] at e
    rcases hla with ⟨_, j, h3, h4, h5⟩ | ⟨h4, _⟩
    ·rw [e] at h3
     have h3' : (0 : Int) = (j : Int) := h3
     have : j = 0 := by omega
     subst this
     exact ⟨by rw [h4]; unfold Heap.addr; rw [hb.1], h5⟩
    ·rw [e] at h4; have h4' : (2 : Int) = 4 := h4; omega
   have lv : ∀ a s, LiveB (H1.born p c) a s ↔ LiveB H a s := by
    intro a s
    constructor
    ·rintro ⟨x, hx, hla⟩
     rw [i3.np] at hx
     by_cases e : x = p
     ·subst e; exact (empty a s hla).elim
     ·have h1 : LiveAt H1 x a s := (LiveAt.congr i3.base (i2 x e)).1 hla
      rcases hN.live.1 ⟨x, hx, h1⟩ with k | ⟨rfl, rfl⟩
      ·exact k
      ·exfalso
       apply e
       rcases h1 with ⟨_, j, _, h4, _⟩ | ⟨hk4, c', q, k5, k6, _, k8, _⟩
       ·unfold Heap.addr at h4; rw [hb.1] at h4; omega
       ·have s := hI.slab hx (fun e => e) hk4 k5
        have := cell_fits s.c8 k6
        unfold Heap.addr at k8; rw [hb.1] at k8; omega
    ·intro hlb
     obtain ⟨x, hx, h1⟩ := hN.live.2 (.inl hlb)
     by_cases e : x = p
     ·subst e
      obtain ⟨rfl, rfl⟩ := hp1 a s h1
      have := hN.fresh h hlb
      have e2 : (2 : Nat) ^ 0 = 1 := rfl
      omega
     ·exact ⟨x, by rw [i3.np]; exact hx, (LiveAt.congr i3.base (i2 x e)).2 h1⟩
   refine ⟨⟨fun a s => ?_, fun a s hlb i hi => ?_, fun hfu => ?_, fun a s hlb => ?_, t.cell, by rw [w.same.np, i3.np]; exact hpn⟩, .inr ⟨hp, H1, hN, Heap.Same.trans w.same i3⟩⟩
   ·rw [taken_live t, lv, ea]
   ·
    rw [k4]
    have e1 := hN.bytes h a s hlb i hi
    obtain ⟨x, hx, hla⟩ := hN.live.2 (.inl hlb)
    obtain ⟨y, j, e, hj, hy, hfr, _⟩ := hI.live_pages hx hla hi
    rw [hb.1] at e
    have hyp : y ≠ p := by
     rintro rfl
     have hfrs := hN.fresh h hlb
     have e2 : (2 : Nat) ^ 0 = 1 := rfl
     have hba : H.base <= a := by
      rcases hla with ⟨_, j, _, h4, _⟩ | ⟨_, c', q, _, _, _, h8, _⟩
      ·rw [h4]; unfold Heap.addr; rw [hb.1]; omega
      ·rw [h8]; unfold Heap.addr; rw [hb.1]; omega
     unfold Heap.addr at hfrs
     omega
    rw [e] at e1 ⊢
    exact (i4 y hyp j hj).trans e1
   ·refine taken_full t fun x hx hne hk => ?_
    rw [i3.np] at hx
    rw [(i2 x hne).kind] at hk
    rw [(i2 x hne).live]
    exact hN.full hfu x hx hk
   ·have := hN.fresh h hlb
    have e2 : (2 : Nat) ^ 0 = 1 := rfl
    have hfit := cell_fits hc t.cell
    rcases this with k | k
    ·left; omega
    ·right; omega
end
end Go.Proofs.YtlgmpheammbacaaGreatDoor
set_option maxRecDepth 1000000
namespace Go.Proofs.YtlgmpheammbacaaGreatDoor
open AM Go
noncomputable section
set_option linter.unusedVariables false
set_option linter.unusedSimpArgs false
variable {H H' : Heap} {fl pl fc : Nat -> List Nat} {hole : Nat -> Prop}
end
end Go.Proofs.YtlgmpheammbacaaGreatDoor
set_option maxRecDepth 1000000
namespace Go.Proofs.YtlgmpheammbacaaGreatDoor
open AM Go
noncomputable section
set_option linter.unusedVariables false
set_option linter.unusedSimpArgs false
attribute [local irreducible] T.get T.set
variable {σ σ' : St}
inductive Cont where
 |row (n : Nat) (f : Nat -> V)
 |ro (o n : Nat) (f : Nat -> V)
 |map (es : List (V × V))
def RoRow (σ : St) (id o n : Nat) (f : Nat -> V) : Prop := ∃ m z t, o + n <= m /\ σ.objs.get id = some (.cells true 0 m z t) /\ ∀ i, i < n -> cellOf m z t (o + i) = some (f i)
theorem RoRow.cell {id o n : Nat} {f : Nat -> V} (h : RoRow σ id o n f) {i : Nat} (hi : i < n) : σ.cell id (o + i) = some (f i) := by
 obtain ⟨m, z, t, hm, ho, hc⟩ := h
 simp only [St.cell, ho]; exact hc i hi
theorem RoRow.congr {id o n : Nat} {f : Nat -> V} (h : RoRow σ id o n f) {f' : Nat -> V} {n' : Nat} (hn : n' <= n) (hf : ∀ i, i < n' -> f i = f' i) : RoRow σ id o n' f' := by
 obtain ⟨m, z, t, hm, ho, hc⟩ := h
 exact ⟨m, z, t, by omega, ho, fun i hi => by rw [<- hf i hi]; exact hc i (by omega)⟩
def Holds (σ : St) (id : Nat) : Cont -> Prop
 | .row n f => Row σ id n f
 | .ro o n f => RoRow σ id o n f
 | .map es => σ.objs.get id = some (.map es)
theorem Holds.obj {id : Nat} {c : Cont} (h : Holds σ id c) : ∃ o, σ.objs.get id = some o /\ o.live = true := by
 cases c with
 |row n f =>
  obtain ⟨g, m, z, t, hm, ho, hc⟩ := h
  exact ⟨_, ho, rfl⟩
 |ro k n f =>
  obtain ⟨m, z, t, hm, ho, hc⟩ := h
  exact ⟨_, ho, rfl⟩
 |map es => exact ⟨_, h, rfl⟩
theorem Holds.keep {id : Nat} {c : Cont} (h : Holds σ id c) (e : σ'.objs.get id = σ.objs.get id) : Holds σ' id c := by
 cases c with
 |row n f =>
  obtain ⟨g, m, z, t, hm, ho, hc⟩ := h
  exact ⟨g, m, z, t, hm, e.trans ho, hc⟩
 |ro k n f =>
  obtain ⟨m, z, t, hm, ho, hc⟩ := h
  exact ⟨m, z, t, hm, e.trans ho, hc⟩
 |map es => exact e.trans h
structure Wd {ι : Type} (σ : St) (has : ι -> Prop) (A : ι -> Nat) (c : ι -> Cont) : Prop where
 gw : GW σ
 wid : Wid σ
 not_wid : ∀ {i}, has i -> A i ≠ widthsId
 inj : ∀ i j, has i -> has j -> A i = A j -> i = j
 hold : ∀ i, has i -> Holds σ (A i) (c i)
 cut : ∀ i j o, has i -> has j -> i ≠ j -> σ.objs.get (A i) = some o -> o.grp ≠ 0 -> A j ∉ σ.row o.grp
section
variable {ι κ : Type} {has : ι -> Prop} {A : ι -> Nat} {c : ι -> Cont}
theorem Wd.lt (h : Wd σ has A c) {i : ι} (hi : has i) : A i < σ.next := by
 obtain ⟨o, ho, _⟩ := (h.hold i hi).obj
 exact h.gw.is_lt ho
theorem Wd.grow (h : Wd σ has A c) (g : Grow σ σ') (w : GW σ') : Wd σ' has A c where
 gw := w
 wid := h.wid.of_get (g.old _ (h.wid.lt h.gw))
 not_wid := h.not_wid
 inj := h.inj
 hold i hi := (h.hold i hi).keep (g.old _ (h.lt hi))
 cut i j o hi hj hne ho hg := by
  rw [g.old _ (h.lt hi)] at ho
  have := h.cut i j o hi hj hne ho hg
  simpa only [St.row, g.grps] using this
theorem Wd.new (h : Wd σ has A c) (o : AM.Obj) (ho : o.grp = 0) : Wd (σ.new o) has A c := h.grow (Grow.new σ o) (h.gw.new o ho)
theorem Wd.lay (h : Wd σ has A c) {n : Nat} {z vs : List V} (hl : vs.length <= n) (hf : vs.all V.flat = true) : Wd (σ.lay n z vs) has A c := h.grow (Grow.lay σ n z vs) (h.gw.lay hl hf)
theorem Wd.sub {has' : κ -> Prop} {A' : κ -> Nat} {c' : κ -> Cont} (h : Wd σ has A c) (e : κ -> ι) (hh : ∀ k, has' k -> has (e k)) (hi : ∀ k l, has' k -> has' l -> e k = e l -> k = l) (hA : ∀ k, has' k -> A' k = A (e k))
  (hc : ∀ k, has' k -> c' k = c (e k) \/ ∃ n f n' f', c (e k) = .row n f /\ c' k = .row n' f' /\ n' <= n /\ ∀ i, i < n' -> f i = f' i) : Wd σ has' A' c' where
 gw := h.gw
 wid := h.wid
 not_wid hk := by rw [hA _ hk]; exact h.not_wid (hh _ hk)
 inj k l hk hl e1 := hi k l hk hl (h.inj _ _ (hh k hk) (hh l hl) (by rw [<- hA k hk, <- hA l hl]; exact e1))
 hold k hk := by
  have := h.hold _ (hh k hk)
  rw [hA k hk]
  rcases hc k hk with e1 | ⟨n, f, n', f', e1, e2, h1, h2⟩
  ·rw [e1]; exact this
  ·rw [e1] at this
   rw [e2]
   exact Row.congr this h1 h2
 cut k l o hk hl hne ho hg := by
  rw [hA k hk] at ho
  rw [hA l hl]
  exact h.cut _ _ o (hh k hk) (hh l hl) (fun e1 => hne (hi k l hk hl e1)) ho hg
theorem Wd.row (h : Wd σ has A c) {i : ι} (hi : has i) {n : Nat} {f : Nat -> V} (e : c i = .row n f) : Row σ (A i) n f := by
 have := h.hold i hi
 rw [e] at this; exact this
theorem Wd.cell (h : Wd σ has A c) {i : ι} (hi : has i) {n : Nat} {f : Nat -> V} (e : c i = .row n f) {k : Nat} (hk : k < n) : σ.cell (A i) k = some (f k) := (h.row hi e).cell hk
theorem Wd.load (h : Wd σ has A c) {i : ι} (hi : has i) {n : Nat} {f : Nat -> V} (e : c i = .row n f) {off k : Nat} (hk : off + k <= n) : σ.load (A i) off k = some ((List.range k).map fun j => f (off + j)) := (h.row hi e).load hk
theorem Wd.roRow (h : Wd σ has A c) {i : ι} (hi : has i) {n : Nat} {f : Nat -> V} {o : Nat} (e : c i = .ro o n f) : RoRow σ (A i) o n f := by
 have := h.hold i hi
 rw [e] at this; exact this
variable [DecidableEq ι]
def updG {α : Type} (f : ι -> α) (i : ι) (x : α) : ι -> α := fun j => if j = i then x else f j
theorem updG_same {α : Type} {f : ι -> α} {i : ι} {x : α} : updG f i x i = x := if_pos rfl
theorem updG_ne {α : Type} {f : ι -> α} {i j : ι} {x : α} (h : j ≠ i) : updG f i x j = f j := if_neg h
theorem Wd.store (h : Wd σ has A c) {i : ι} (hi : has i) {n : Nat} {f : Nat -> V} (e : c i = .row n f) {off : Nat} {vs : List V} (hk : off + vs.length <= n) (hf : vs.all V.flat = true) :
  ∃ σ', σ.store (A i) off vs = some σ' /\ Wd σ' has A (updG c i (.row n (over f off vs))) /\ σ'.next = σ.next := by
 obtain ⟨σ', e1, hr, hn, hg, hst, hgrp⟩ := (h.row hi e).store hk hf
 have hwid : Wid σ' := by
  obtain ⟨m, z, t, hm, ho, hc⟩ := h.wid
  exact h.wid.of_get (hst.keep h.gw (Ne.symm (h.not_wid hi)) ho rfl rfl)
 refine ⟨σ', e1, ⟨h.gw.store e1, hwid, h.not_wid, h.inj, ?_, ?_⟩, hn⟩
 ·intro j hj
  by_cases d : j = i
  ·subst d
   rw [updG_same]; exact hr
  ·have hne : A j ≠ A i := fun e => d (h.inj j i hj hi e)
   rw [updG_ne d]
   refine (h.hold j hj).keep ?_
   exact hst (A j) hne fun o hoo hg0 => h.cut i j o hi hj (Ne.symm d) hoo hg0
 ·intro a b o ha hb hne ho hg0
  simp only [St.row, hg]
  by_cases d : a = i
  ·subst d
   obtain ⟨q, hq, _⟩ := (h.hold a hi).obj
   obtain ⟨o', ho', hgo⟩ := hgrp _ hq
   rw [ho] at ho'; simp only [Option.some.injEq] at ho'; subst ho'
   have := h.cut a b q hi hb hne hq (by omega)
   rwa [<- hgo] at this
  ·have hne' : A a ≠ A i := fun e => d (h.inj a i ha hi e)
   rw [hst (A a) hne' fun o hoo hg0 => h.cut i a o hi ha (Ne.symm d) hoo hg0] at ho
   exact h.cut a b o ha hb hne ho hg0
theorem Wd.add (h : Wd σ has A c) {i0 : ι} (hs : ¬ has i0) {b : Nat} {x : Cont} (L : Holds σ b x) (h0 : ∀ o, σ.objs.get b = some o -> o.grp = 0) (hne : ∀ i, has i -> A i ≠ b) (hbw : b ≠ widthsId) : Wd σ (fun i => has i \/ i = i0) (updG A i0 b) (updG c i0 x) := by
 have hn : ∀ i, has i -> i ≠ i0 := fun i a e => hs (e ▸ a)
 refine ⟨h.gw, h.wid, ?_, ?_, ?_, ?_⟩
 ·rintro i (ha | rfl)
  ·rw [updG_ne (hn i ha)]; exact h.not_wid ha
  ·rw [updG_same]; exact hbw
 ·rintro i j (ha | rfl) (hb | rfl) e
  ·rw [updG_ne (hn i ha), updG_ne (hn j hb)] at e; exact h.inj i j ha hb e
  ·rw [updG_ne (hn i ha), updG_same] at e; exact (hne i ha e).elim
  ·rw [updG_ne (hn j hb), updG_same] at e; exact (hne j hb e.symm).elim
  ·rfl
 ·rintro i (ha | rfl)
  ·rw [updG_ne (hn i ha), updG_ne (hn i ha)]; exact h.hold i ha
  ·rw [updG_same, updG_same]; exact L
 ·rintro i j o (ha | rfl) hb hab hoo hg
  ·rw [updG_ne (hn i ha)] at hoo
   rcases hb with hb | rfl
   ·rw [updG_ne (hn j hb)]; exact h.cut i j o ha hb hab hoo hg
   ·rw [updG_same]
    intro k
    obtain ⟨q, hq, hl⟩ := L.obj
    have := h.gw.grp _ _ _ k hq hl
    rw [h0 q hq] at this
    exact hg this.symm
  ·rw [updG_same] at hoo
   exact absurd (h0 o hoo) hg
theorem Wd.addLcl (h : Wd σ has A c) {i0 : ι} (hs : ¬ has i0) {b n : Nat} {f : Nat -> V} (L : Lcl σ b n f) (hne : ∀ i, has i -> A i ≠ b) : Wd σ (fun i => has i \/ i = i0) (updG A i0 b) (updG c i0 (.row n f)) := by
 refine h.add hs (x := .row n f) L.row (fun o ho => ?_) hne (Ne.symm (h.wid.not_lcl L))
 obtain ⟨m, z, t, hm, ho', hc⟩ := L
 rw [ho', Option.some.injEq] at ho
 subst ho; rfl
theorem Wd.cells (h : Wd σ has A c) {i0 : ι} (hs : ¬ has i0) (vs : List V) : Wd (σ.newCells vs) (fun i => has i \/ i = i0) (updG A i0 σ.next) (updG c i0 (.row vs.length (lst vs))) :=
 (h.new _ rfl).addLcl hs (Lcl.of_cells σ vs) fun i hi => Nat.ne_of_lt (h.lt hi)
theorem Wd.append (h : Wd σ has A c) {i : ι} (hi : has i) {n : Nat} {f : Nat -> V} (e : c i = .row n f) {esz bytes k xl : Nat} {vs : List V} (hsz : n = xl * esz) (h1 : (xl + k) * bytes <= maxLenBytes) (h2 : xl + k <= maxLenBytes) (hf : vs.all V.flat = true) :
  ∃ σ', appendL σ esz bytes k vs (some (A i, 0)) xl = some (.slice (some (σ.next, 0)) (xl + k) esz, σ') /\ σ'.next = σ.next + 1 ∧
   Wd σ' has (updG A i σ.next) (updG c i (.row (n + vs.length) fun j => if j < n then f j else lst vs (j - n))) := by
 obtain ⟨v0, σ', ha⟩ := append_ok (h.row hi e) (esz := esz) (bytes := bytes) (k := k) (xl := xl) (vs := vs) (by omega) h1 h2 hf
 have hw := h.gw.appendL ha
 obtain ⟨g, m, z, t, old, hg, hold, hv, hn, hgr, hat⟩ := appendL_at ha
 have hrow0 := h.row hi e
 have hload := hrow0.load (off := 0) (k := xl * esz) (by omega)
 have hold' : σ.load (A i) 0 (xl * esz) = some old := by simp only [St.load, hg, hold]
 rw [hold', Option.some.injEq] at hload
 have hol : old.length = xl * esz := by rw [hload]; simp
 have hnext : ∀ j, has j -> A j ≠ σ.next := fun j a => by have := h.lt a; omega
 have hst : ∀ j, has j -> j ≠ i -> σ'.objs.get (A j) = σ.objs.get (A j) := by
  intro j hj hne
  have h1 : A j ≠ A i := fun e => hne (h.inj j i hj hi e)
  have h3 : ¬ (g ≠ 0 /\ A j ∈ σ.row g) := fun ⟨k1, k2⟩ => h.cut i j _ hi hj (Ne.symm hne) hg k1 k2
  rw [hat, if_neg (hnext j hj), if_neg (fun k => h3 ⟨k.1, List.mem_of_mem_drop k.2⟩), if_neg h1, if_neg h3]
 have hstw : σ'.objs.get widthsId = σ.objs.get widthsId := by
  obtain ⟨mw, zw, tw, hmw, hw0, hcw⟩ := h.wid
  have h1 : widthsId ≠ A i := Ne.symm (h.not_wid hi)
  have hlw := h.wid.lt h.gw
  have h3 : ¬ (g ≠ 0 /\ widthsId ∈ σ.row g) := fun ⟨k1, k2⟩ => k1 (h.gw.grp g _ _ k2 hw0 rfl).symm
  rw [hat, if_neg (by omega), if_neg (fun k => h3 ⟨k.1, List.mem_of_mem_drop k.2⟩), if_neg h1, if_neg h3]
 subst hv
 have hnewget : σ'.objs.get σ.next = some (.cells false (if g = 0 then σ.next else g) (old ++ vs).length [] (ofList (old ++ vs))) := by rw [hat, if_pos rfl]
 obtain ⟨G, hG⟩ : ∃ G, G = (if g = 0 then σ.next else g) := ⟨_, rfl⟩
 rw [<- hG] at hgr hnewget
 have hrowO : ∀ g', g' ≠ G -> σ'.row g' = σ.row g' := by
  intro g' hne
  simp only [St.row, hgr, T.get_set]
  rw [if_neg hne]
 have hrowG : σ'.row G = σ.next :: (if g = 0 then [A i] else (σ.row g).take 8) := by
  simp only [St.row, hgr, T.get_set, if_true, Option.getD_some]
 have hmemG : ∀ j, has j -> j ≠ i -> A j ∉ σ'.row G := by
  intro j hj hne hm
  rw [hrowG] at hm
  rcases List.mem_cons.1 hm with e1 | hm
  ·exact hnext j hj e1
  ·by_cases c0 : g = 0
   ·rw [if_pos c0] at hm
    have : A j = A i := by simpa using hm
    exact hne (h.inj j i hj hi this)
   ·rw [if_neg c0] at hm
    exact h.cut i j _ hi hj (Ne.symm hne) hg c0 (List.mem_of_mem_take hm)
 refine ⟨σ', ha, hn, ⟨hw, h.wid.of_get hstw, ?_, ?_, ?_, ?_⟩⟩
 ·intro a hha
  by_cases da : a = i
  ·rw [da, updG_same]; have := h.wid.lt h.gw; omega
  ·rw [updG_ne da]; exact h.not_wid hha
 ·intro a b hha hhb e1
  by_cases da : a = i
  ·by_cases db : b = i
   ·rw [da, db]
   ·rw [da, updG_same, updG_ne db] at e1; exact (hnext b hhb e1.symm).elim
  ·by_cases db : b = i
   ·rw [db, updG_same, updG_ne da] at e1; exact (hnext a hha e1).elim
   ·rw [updG_ne da, updG_ne db] at e1; exact h.inj a b hha hhb e1
 ·intro j hj
  by_cases d : j = i
  ·subst d
   rw [updG_same, updG_same]
   refine ⟨_, _, _, _, ?_, hnewget, fun q hq => ?_⟩
   ·rw [List.length_append]; omega
   ·rw [cellOf_ofList]
    have hq2 : q < (old ++ vs).length := by rw [List.length_append]; omega
    rw [List.getElem?_eq_getElem hq2, Option.some.injEq]
    show _ = if q < n then f q else lst vs (q - n)
    by_cases cq : q < n
    ·rw [if_pos cq, List.getElem_append_left (by omega)]
     have hx : old[q]? = some (f q) := by
      rw [hload, List.getElem?_map, List.getElem?_range (by omega)]; simp
     rw [List.getElem?_eq_getElem (by omega), Option.some.injEq] at hx
     exact hx
    ·rw [if_neg cq, List.getElem_append_right (by omega)]
     unfold lst
     rw [List.getD_eq_getElem?_getD, List.getElem?_eq_getElem (by omega), Option.getD_some]
     congr 1; omega
  ·rw [updG_ne d, updG_ne d]
   exact (h.hold j hj).keep (hst j hj d)
 ·intro a b o hha hhb hne ho hg0
  by_cases da : a = i
  ·subst da
   rw [updG_same, hnewget, Option.some.injEq] at ho
   subst ho
   rw [updG_ne (Ne.symm hne)]
   exact hmemG b hhb (Ne.symm hne)
  ·rw [updG_ne da, hst a hha da] at ho
   have hoG : o.grp ≠ G := by
    intro e1
    have hin := (h.gw.mem _ _ ho hg0).1
    by_cases c0 : g = 0
    ·rw [if_pos c0] at hG
     have := (h.gw.mem _ _ ho hg0).2
     omega
    ·rw [if_neg c0] at hG
     rw [e1, hG] at hin
     exact h.cut i a _ hi hha (Ne.symm da) hg c0 hin
   rw [hrowO _ hoG]
   by_cases db : b = i
   ·subst db
    rw [updG_same]
    intro hm
    have := h.gw.lt _ _ hm; omega
   ·rw [updG_ne db]
    exact h.cut a b o hha hhb hne ho hg0
end
section
variable {ι κ : Type} {has0 : ι -> Prop} {A0 : ι -> Nat} {c0 : ι -> Cont} {hasK : κ -> Prop} {AK : κ -> Nat} {cK : κ -> Cont}
def WOwn {ι : Type} (σ : St) (has : ι -> Prop) (A : ι -> Nat) (a : Nat) : Prop := a = widthsId \/ ∃ i, has i /\ (a = A i \/ ∃ o q, σ.objs.get (A i) = some o /\ o.grp ≠ 0 /\ a ∈ σ.row o.grp /\ σ.objs.get a = some q /\ q.live = true)
theorem Wd.left (h : Wd σ (Sum.elim has0 hasK) (Sum.elim A0 AK) (Sum.elim c0 cK)) : Wd σ has0 A0 c0 :=
 h.sub Sum.inl (fun _ h => h) (fun _ _ _ _ e => Sum.inl.inj e) (fun _ _ => rfl) fun _ _ => .inl rfl
theorem Wd.right (h : Wd σ (Sum.elim has0 hasK) (Sum.elim A0 AK) (Sum.elim c0 cK)) : Wd σ hasK AK cK :=
 h.sub Sum.inr (fun _ h => h) (fun _ _ _ _ e => Sum.inr.inj e) (fun _ _ => rfl) fun _ _ => .inl rfl
theorem Wd.own_lt (h : Wd σ has0 A0 c0) {a : Nat} (ha : WOwn σ has0 A0 a) : a < σ.next := by
 obtain rfl | ⟨i, hi, rfl | ⟨o, q, h1, h2, h3, h4, h5⟩⟩ := ha
 ·exact h.wid.lt h.gw
 ·exact h.lt hi
 ·exact h.gw.is_lt h4
theorem Wd.apart (h : Wd σ has0 A0 c0) : Apart (WOwn σ has0 A0) σ := by
 intro a g o hna ha hl hg hmem b o' hb hob hgb
 rcases hb with rfl | ⟨i, hi, hb⟩
 ·obtain ⟨m, z, t, hm, ho, hc⟩ := h.wid
  rw [ho] at hob; simp only [Option.some.injEq] at hob; subst hob
  exact hg hgb.symm
 rcases hb with rfl | ⟨p, q, h1, h2, h3, h4, h5⟩
 ·exact hna <| .inr ⟨i, hi, .inr ⟨o', o, hob, by omega, by rw [hgb]; exact hmem, ha, hl⟩⟩
 ·rw [hob] at h4; simp only [Option.some.injEq] at h4; subst h4
  have := h.gw.grp _ _ _ h3 hob h5
  exact hna <| .inr ⟨i, hi, .inr ⟨p, o, h1, h2, by rw [<- this, hgb]; exact hmem, ha, hl⟩⟩
theorem Wd.keep (h : Wd σ has0 A0 c0) : Wd (σ.keep (WOwn σ has0 A0)) has0 A0 c0 where
 gw := gw_keep h.gw _
 wid := h.wid.of_get ((σ.keep_get _ _).1 (.inl rfl))
 not_wid := h.not_wid
 inj := h.inj
 hold i hi := (h.hold i hi).keep ((σ.keep_get _ _).1 (.inr ⟨i, hi, .inl rfl⟩))
 cut i j o hi hj hne ho hg := by
  rw [((σ.keep_get _ _).1 (.inr ⟨i, hi, .inl rfl⟩))] at ho
  exact h.cut i j o hi hj hne ho hg
theorem Wd.others (h : Wd σ (Sum.elim has0 hasK) (Sum.elim A0 AK) (Sum.elim c0 cK)) {k : κ} (hk : hasK k) : ¬ WOwn σ has0 A0 (AK k) := by
 rintro (e | ⟨i, hi, e | ⟨o, q, h1, h2, h3, h4, h5⟩⟩)
 ·exact h.not_wid (i := .inr k) hk e
 ·have := h.inj (.inr k) (.inl i) hk hi e
  cases this
 ·exact h.cut (.inl i) (.inr k) o hi hk (by simp) h1 h2 h3
theorem Wd.call {Γ Γ' : T AF} {M : List Memo} {g : FuncId} {xs : List V} {P : V -> (ι -> Prop) -> (ι -> Nat) -> (ι -> Cont) -> Prop} (hΓ : ∀ g x, Γ.get g = some x -> Γ'.get g = some x) (hM : ∀ m ∈ M, Γ.get m.g = none)
  (h : Wd σ (Sum.elim has0 hasK) (Sum.elim A0 AK) (Sum.elim c0 cK))
  (spec : ∀ σ, Wd σ has0 A0 c0 -> Runs Γ [] g xs σ fun v σ' => ∃ has' A' c', Wd σ' has' A' c' /\ P v has' A' c') :
  Runs Γ' M g xs σ fun v σ' => ∃ has' A' c', Wd σ' (Sum.elim has' hasK) (Sum.elim A' AK) (Sum.elim c' cK) /\ P v has' A' c' := by
 have h0 := h.left
 have hrun := Runs.frame hΓ hM (fun a => h0.own_lt) h.gw.fresh h0.apart ((spec _ h0.keep).gw h0.keep.gw)
 obtain ⟨v, σ', ⟨s', ⟨⟨has', A', c', hW, hP⟩, hgw⟩, hpart⟩, hret⟩ := hrun
 have hgw' : GW σ' := by
  obtain ⟨f0, hf⟩ := hret
  have hb := spec σ h0
  obtain ⟨v3, σ3, ⟨_, h3⟩, hr3⟩ := hb.gw h.gw
  obtain ⟨f3, hf3⟩ := hr3.lift (Γ' := Γ') (M := M) hΓ hM
  have e := (hf (max f0 f3) (by omega)).symm.trans (hf3 (max f0 f3) (by omega))
  simp only [Option.some.injEq, Prod.mk.injEq] at e
  rw [e.2]; exact h3
 have hget : ∀ a o, s'.objs.get a = some o -> σ'.objs.get a = some o := fun a o => hpart.get
 have hholds : ∀ i, has' i -> Holds σ' (A' i) (c' i) := by
  intro i hi
  have := hW.hold i hi
  cases hc : c' i with
  |row n f =>
   rw [hc] at this
   obtain ⟨g, m, z, t, hm, ho, hc⟩ := this
   exact ⟨g, m, z, t, hm, hget _ _ ho, hc⟩
  |ro k n f =>
   rw [hc] at this
   obtain ⟨m, z, t, hm, ho, hc⟩ := this
   exact ⟨m, z, t, hm, hget _ _ ho, hc⟩
  |map es => rw [hc] at this; exact hget _ _ this
 have hwid : Wid σ' := by obtain ⟨m, z, t, hm, ho, hc⟩ := hW.wid; exact ⟨m, z, t, hm, hget _ _ ho, hc⟩
 have hle : σ.next <= σ'.next := by rw [<- hpart.next]; exact hpart.le
 have hold : ∀ a, a < σ.next -> ¬ WOwn σ has0 A0 a -> σ'.objs.get a = σ.objs.get a := fun a ha hn => (hpart.theirs a ha hn).2
 have hown : ∀ a, WOwn σ' has' A' a -> WOwn σ has0 A0 a \/ σ.next <= a := by
  rintro a (rfl | ⟨i, hi, hor⟩)
  ·exact .inl (.inl rfl)
  obtain ⟨oi, hoi, hli⟩ := (hW.hold i hi).obj
  rcases hor with rfl | ⟨o, q, h1, h2, h3, h4, h5⟩
  ·exact hpart.is hoi
  ·rw [hget _ _ hoi] at h1; simp only [Option.some.injEq] at h1; subst h1
   rcases Nat.lt_or_ge a σ.next with d | d
   ·by_cases d2 : WOwn σ has0 A0 a
    ·exact .inl d2
    ·obtain ⟨k1, k2⟩ := hpart.theirs a d d2
     rw [h4] at k2
     exact (hpart.sep a _ q d d2 k2.symm h5 h2 (by simpa only [St.row, hpart.grps] using h3) _ _ hoi rfl).elim
   ·exact .inr d
 have hk : ∀ k, hasK k -> σ'.objs.get (AK k) = σ.objs.get (AK k) := fun k hk => hold _ (h.lt (i := .inr k) hk) (h.others hk)
 have hkn : ∀ k, hasK k -> ¬ WOwn σ' has' A' (AK k) := by
  intro k hk ho
  rcases hown _ ho with e | e
  ·exact h.others hk e
  ·have := h.lt (i := .inr k) hk
   have e' : σ.next <= AK k := e
   have t' : AK k < σ.next := this
   omega
 have hkeep : ∀ k, hasK k -> Holds σ' (AK k) (cK k) := fun k hk' => (h.hold (.inr k) hk').keep (hk k hk')
 refine ⟨v, σ', ⟨has', A', c', ⟨hgw', hwid, ?_, ?_, ?_, ?_⟩, hP⟩, hret⟩
 ·rintro (i | k) hi
  ·exact hW.not_wid hi
  ·exact h.not_wid (i := .inr k) hi
 ·rintro (i | k) (j | l) hi hj e
  ·exact congrArg _ (hW.inj i j hi hj e)
  ·exact (hkn l hj (.inr ⟨i, hi, .inl e.symm⟩)).elim
  ·exact (hkn k hi (.inr ⟨j, hj, .inl e⟩)).elim
  ·exact h.inj (.inr k) (.inr l) hi hj e
 ·rintro (i | k) hi
  ·exact hholds i hi
  ·exact hkeep k hi
 ·rintro (i | k) (j | l) o hi hj hne ho hg
  ·obtain ⟨oi, hoi, hli⟩ := (hW.hold i hi).obj
   have ho' : σ'.objs.get (A' i) = some o := ho
   rw [hget _ _ hoi, Option.some.injEq] at ho'; subst ho'
   have := hW.cut i j _ hi hj (fun e => hne (congrArg _ e)) hoi hg
   show A' j ∉ σ'.row oi.grp
   simpa only [St.row, hpart.grps] using this
  ·intro hm
   obtain ⟨q, hq, hl⟩ := (hkeep l hj).obj
   exact hkn l hj (.inr ⟨i, hi, .inr ⟨o, q, ho, hg, hm, hq, hl⟩⟩)
  ·
   intro hm
   obtain ⟨q, hq, hl⟩ := (hholds j hj).obj
   have hqg := hgw'.grp _ _ _ hm hq hl
   have ho' : σ'.objs.get (AK k) = some o := ho
   obtain ⟨q2, hq2, hl2⟩ := (hkeep k hi).obj
   rw [ho', Option.some.injEq] at hq2; subst hq2
   have hin := (hgw'.mem _ _ ho' hg).1
   exact hkn k hi (.inr ⟨j, hj, .inr ⟨q, o, hq, by omega, by rw [hqg]; exact hin, ho', hl2⟩⟩)
  ·have ho' : σ'.objs.get (AK k) = some o := ho
   have ho2 := ho'
   rw [hk k hi] at ho2
   have hcut := h.cut (.inr k) (.inr l) o hi hj hne ho2 hg
   intro hm
   obtain ⟨q, hq, hl⟩ := (hkeep l hj).obj
   have hm' : AK l ∈ σ'.row o.grp := hm
   have hqg := hgw'.grp _ _ _ hm' hq hl
   rw [hk l hj] at hq
   have := (h.gw.mem _ _ hq (by omega)).1
   rw [hqg] at this
   exact hcut this
end
theorem wd_hrep {A : Slot -> Nat} {H : Heap} (h : Wd σ H.has A fun s => .row (H.size s) (H.cell A s)) : HRep σ A H := ⟨h.gw, h.wid, h.inj, h.hold, h.cut⟩
theorem hrep_wd {A : Slot -> Nat} {H : Heap} (h : HRep σ A H) : Wd σ H.has A fun s => .row (H.size s) (H.cell A s) := ⟨h.gw, h.wid, fun hi => Ne.symm (h.wid.not_row (h.row _ hi)), h.inj, h.row, h.cut⟩
end
end Go.Proofs.YtlgmpheammbacaaGreatDoor
