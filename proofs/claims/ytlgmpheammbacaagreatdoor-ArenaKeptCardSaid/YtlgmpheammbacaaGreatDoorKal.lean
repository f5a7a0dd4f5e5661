import Derived.Test.YtlgmpheammbacaaGreatDoorKak
set_option maxRecDepth 1000000
namespace Go.Proofs.YtlgmpheammbacaaGreatDoor
open AM Go
noncomputable section
set_option linter.unusedVariables false
set_option linter.unusedSimpArgs false
attribute [local irreducible] T.get T.set
variable {σ σ' : St}
def heapC (H : Heap) (A : Slot -> Nat) : Slot -> Cont := fun s => .row (H.size s) (H.cell A s)
abbrev HC {κ : Type} (σ : St) (A : Slot -> Nat) (H : Heap) (hasK : κ -> Prop) (B : κ -> Nat) (cK : κ -> Cont) : Prop := Wd σ (Sum.elim H.has hasK) (Sum.elim A B) (Sum.elim (heapC H A) cK)
section
variable {κ : Type} {A : Slot -> Nat} {H H' : Heap} {hasK : κ -> Prop} {B : κ -> Nat} {cK : κ -> Cont}
theorem HC.rep (h : HC σ A H hasK B cK) : HRep σ A H := wd_hrep h.left
theorem HC.call {Γ Γ' : T AF} {M : List Memo} {g : FuncId} {xs : List V} {P : V -> (Slot -> Nat) -> Prop} (hΓ : ∀ g x, Γ.get g = some x -> Γ'.get g = some x) (hM : ∀ m ∈ M, Γ.get m.g = none) (h : HC σ A H hasK B cK)
  (spec : ∀ σ, HRep σ A H -> Runs Γ [] g xs σ fun v σ' => ∃ A', HRep σ' A' H' /\ P v A') :
  Runs Γ' M g xs σ fun v σ' => ∃ A', HC σ' A' H' hasK B cK /\ P v A' := by
 refine (Wd.call (P := fun v has' A' c' => has' = H'.has /\ c' = heapC H' A' /\ P v A') hΓ hM h fun s w => (spec s (wd_hrep w)).mono ?_).mono ?_
 ·rintro v s' ⟨A', R, hp⟩
  exact ⟨_, A', _, hrep_wd R, rfl, rfl, hp⟩
 ·rintro v s' ⟨has', A', c', w, rfl, rfl, hp⟩
  exact ⟨A', w, hp⟩
end
inductive AI where
 |arena | chunks | stand | marks
 deriving DecidableEq
structure Mk where
 n : Nat
 chunks : Nat
 taken : Nat
 used : Nat
def Mk.e (m : Mk) : V × V := (.int .i64 m.n, .agg [.int .i64 m.n, .int .i64 m.chunks, .int .u64 m.taken, .int .u64 m.used])
structure AS where
 chunk : Nat
 hasC : Bool
 chunks : List (Nat × Nat)
 taken : Nat
 used : Nat
 init : Bool
 ms : List Mk
 hasS : Bool
 made : Nat
def AS.once (S : AS) : Int := if S.init = true then 1 else 0
def AS.marks (S : AS) : Option (List (V × V)) := if S.init = true then some (S.ms.map Mk.e) else none
def AS.stand (S : AS) : List Int := S.ms.map fun m => (m.n : Int)
namespace AS
def has (S : AS) : AI -> Prop
 | .arena => True
 | .chunks => S.hasC = true
 | .stand => S.hasS = true
 | .marks => S.marks.isSome = true
def chunksV (S : AS) (B : AI -> Nat) : V := if S.hasC = true then .slice (some (B .chunks, 0)) S.chunks.length 2 else .slice none 0 0
def standV (S : AS) (B : AI -> Nat) : V := if S.hasS = true then .slice (some (B .stand, 0)) S.stand.length 1 else .slice none 0 0
def marksV (S : AS) (B : AI -> Nat) : V := if S.marks.isSome = true then .map (some (B .marks)) else .map none
end AS
def blkV (l : List (Nat × Nat)) (i : Nat) : V := .int .u64 ((if i % 2 = 0 then (l.getD (i / 2) (0, 0)).1 else (l.getD (i / 2) (0, 0)).2 : Nat) : Int)
def AS.cont (S : AS) (hp : Nat) (B : AI -> Nat) : AI -> Cont
 | .arena => .row 11 (lst [.ptr (some (hp, 0)), .int .u64 S.chunk, S.chunksV B, .int .u64 S.taken, .int .u64 S.used, .int .u32 S.once, .int .i32 0, .int .u32 0, S.marksV B, S.standV B, .int .i64 S.made])
 | .chunks => .row (S.chunks.length * 2) (blkV S.chunks)
 | .stand => .row S.stand.length fun i => .int .i64 (S.stand.getD i 0)
 | .marks => .map (S.marks.getD [])
abbrev AR (σ : St) (A : Slot -> Nat) (H : Heap) (B : AI -> Nat) (S : AS) : Prop := HC σ A H S.has B (S.cont (A .heap) B)
structure AS.OK (S : AS) : Prop where
 chunks : ∀ b, b ∈ S.chunks -> b.1 + b.2 <= 9223372036854775808 /\ b.2 <= 8388608
 taken : S.taken <= 8388608
 used : S.used < 18446744073709551616
 chunk : S.chunk <= 1048576
 nil : S.hasC = false -> S.chunks = []
 nilS : S.hasS = false -> S.stand = []
 few : S.chunks.length <= 5000000000000
theorem isPow_two {a : Nat} (h : isPow a = true) : ∃ j, a = 2 ^ j := by
 unfold isPow at h
 simp only [Bool.and_eq_true, decide_eq_true_eq] at h
 obtain ⟨h0, h1⟩ := h
 refine ⟨a.log2, ?_⟩
 have hlo : 2 ^ a.log2 <= a := Nat.log2_self_le h0
 have hhi : a < 2 ^ (a.log2 + 1) := Nat.lt_log2_self
 refine Decidable.byContradiction fun hne => ?_
 have b1 : a.testBit a.log2 = true := by
  rw [Nat.testBit_eq_decide_div_mod_eq, decide_eq_true_eq]
  have : a / 2 ^ a.log2 = 1 := Nat.div_eq_of_lt_le (by omega) (by rw [Nat.pow_succ] at hhi; omega)
  rw [this]
 have b2 : (a - 1).testBit a.log2 = true := by
  rw [Nat.testBit_eq_decide_div_mod_eq, decide_eq_true_eq]
  have : (a - 1) / 2 ^ a.log2 = 1 := Nat.div_eq_of_lt_le (by omega) (by rw [Nat.pow_succ] at hhi; omega)
  rw [this]
 have : (a &&& (a - 1)).testBit a.log2 = true := by rw [Nat.testBit_and, b1, b2]; rfl
 rw [h1, Nat.zero_testBit] at this
 cases this
theorem andNot_down {y j : Nat} (hy : y < 18446744073709551616) (hj : j < 64) : andNotI .u64 (y : Int) ((2 ^ j - 1 : Nat) : Int) = ((y / 2 ^ j * 2 ^ j : Nat) : Int) := by
 have hp := pow_pos' j
 have hk2 : 2 ^ j < 2 ^ 64 := Nat.pow_lt_pow_right (by omega) hj
 have e : (BitVec.ofInt IntKind.u64.bits (y : Int) &&& ~~~ BitVec.ofInt IntKind.u64.bits ((2 ^ j - 1 : Nat) : Int)).toNat = y / 2 ^ j * 2 ^ j := by
  rw [BitVec.toNat_and, BitVec.toNat_not, bv64 y (by omega), bv64 (2 ^ j - 1) (by omega), show IntKind.u64.bits = 64 from rfl]
  apply Nat.eq_of_testBit_eq
  intro i
  rw [Nat.testBit_and, show 2 ^ 64 - 1 - (2 ^ j - 1) = 2 ^ 64 - (2 ^ j - 1 + 1) by omega, Nat.testBit_two_pow_sub_succ (by omega), Nat.testBit_mul_two_pow, Nat.testBit_div_two_pow, Nat.testBit_two_pow_sub_one]
  by_cases c : i < j
  ·rw [decide_eq_true c, decide_eq_false (show ¬ i ≥ j by omega)]; simp
  ·rw [decide_eq_false c, decide_eq_true (show i ≥ j by omega), show i - j + j = i by omega]
   by_cases c64 : i < 64
   ·simp [c64]
   ·have : y.testBit i = false := Nat.testBit_lt_two_pow (Nat.lt_of_lt_of_le hy (Nat.pow_le_pow_right (by omega) (by omega) : 2 ^ 64 <= 2 ^ i))
    rw [this]; simp
 unfold andNotI
 rw [e]
 have : y / 2 ^ j * 2 ^ j <= y := Nat.div_mul_le_self _ _
 exact u64_nat (by omega)
def AS.fit (S : AS) (m a : Nat) : Option Nat := match S.chunks.getLast? with
 |none => none
 |some t => if (t.1 + S.taken + a - 1) / a * a + m <= t.1 + t.2 then some ((t.1 + S.taken + a - 1) / a * a) else none
def allocA (H : Heap) (S : AS) (n a : Nat) (d : Bool) : Heap × AS × Nat × Nat :=
 if isPow a = false then (H, S, 0, 1)
 else if H.rsz < max n 1 \/ H.rsz < a then (H, S, 0, 3)
 else match S.fit (max n 1) a with
  |some p => (H, { S with taken := p + max n 1 - (S.chunks.getLast?.getD (0, 0)).1, used := (S.used + max n 1) % 18446744073709551616 }, p, 0)
  |none => if (H.held.allocF (max (max n 1) S.chunk) a d).2.2 = 0 then
    ((H.held.allocF (max (max n 1) S.chunk) a d).1.setLock 0,
     { S with hasC := true, chunks := S.chunks ++ [((H.held.allocF (max (max n 1) S.chunk) a d).2.1, (((H.held.allocF (max (max n 1) S.chunk) a d).1.setLock 0).startF (H.held.allocF (max (max n 1) S.chunk) a d).2.1).getD 0)], taken := max n 1, used := (S.used + max n 1) % 18446744073709551616 },
     (H.held.allocF (max (max n 1) S.chunk) a d).2.1, 0)
   else ((H.held.allocF (max (max n 1) S.chunk) a d).1.setLock 0, S, 0, (H.held.allocF (max (max n 1) S.chunk) a d).2.2)
structure Good (H : Heap) : Prop where
 fine : Fine H
 full : Full H
 lock : H.lock = 0
section
variable {A : Slot -> Nat} {H : Heap} {B : AI -> Nat} {S : AS}
theorem r_Config (hR : HRep σ A H) : Runs G0 [] 120 [.ptr (some (A .heap, 0))] σ fun r s => r = .agg [.int .u64 H.base, .int .i64 H.limit, .int .i64 H.order] /\ Grow σ s := by
 refine runs_body g120 rfl ?_
 have g1 := Grow.new σ (.cells false 0 3 [.int .u64 0, .int .i64 0, .int .i64 0] .nil)
 have R1 := hR.new (.cells false 0 3 [.int .u64 0, .int .i64 0, .int .i64 0] .nil) rfl
 have hl := R1.load (s := .heap) trivial (off := 2) (k := 3) (show 2 + 3 <= 7 by omega)
 rw [show ((List.range 3).map fun j => H.cell A .heap (2 + j)) = [V.int .u64 H.base, .int .i64 H.limit, .int .i64 H.order] from rfl] at hl
 have hst := new_store (σ := σ) (z := [.int .u64 0, .int .i64 0, .int .i64 0]) (vs := [V.int .u64 H.base, .int .i64 H.limit, .int .i64 H.order]) (n := 3) (by simp) rfl
 have L := Lcl.lay σ 3 [.int .u64 0, .int .i64 0, .int .i64 0] [V.int .u64 H.base, .int .i64 H.limit, .int .i64 H.order] rfl
 have hl2 := L.load (off := 0) (k := 3) (by omega)
 rw [show ((List.range 3).map fun j => lst [V.int .u64 H.base, .int .i64 H.limit, .int .i64 H.order] (0 + j)) = [V.int .u64 H.base, .int .i64 H.limit, .int .i64 H.order] from rfl] at hl2
 simp -implicitDefEqProofs only [go_sem, Nat.reduceEqDiff, Nat.reduceAdd, List.length_cons, List.length_nil, hl, vcells_agg, hst, hl2]
 exact Grow.lay _ _ _ _
theorem r_asize (hR : HRep σ A H) (ok : H.OK) : Runs G0 [] 60 [.ptr (some (A .heap, 0))] σ fun r s => r = .int .u64 H.rsz /\ Grow σ s := by
 refine runs_body g60 rfl ?_
 obtain ⟨v, s1, ⟨rfl, g1⟩, hr⟩ := r_Config hR
 have ho := ok.order_le
 have hz := rsz_lt ok
 have d2 : (0 : Int) <= (H.order : Int) := by omega
 have e3 : shlI .u64 4096 (H.order : Int) = (H.rsz : Int) := by
  unfold Heap.rsz at hz
  exact u64_shl (a := 4096) (n := H.order) (by omega) (by omega)
 simp -implicitDefEqProofs only [go_sem, Nat.reduceEqDiff]
 refine runs_ret hr ?_
 simp -implicitDefEqProofs only [go_sem, Nat.reduceEqDiff, Nat.reduceLeDiff, bin_shl, d2, e3]
 exact g1
end
end
end Go.Proofs.YtlgmpheammbacaaGreatDoor
set_option maxRecDepth 1000000
namespace Go.Proofs.YtlgmpheammbacaaGreatDoor
open AM Go
noncomputable section
set_option linter.unusedVariables false
set_option linter.unusedSimpArgs false
attribute [local irreducible] T.get T.set
variable {σ σ' : St} {A : Slot -> Nat} {H : Heap} {B : AI -> Nat} {S : AS}
theorem Wd.rgrow {ι : Type} {has : ι -> Prop} {A : ι -> Nat} {c : ι -> Cont} {Γ : T AF} {g : FuncId} {xs : List V} {P : V -> Prop} (h : Wd σ has A c) (r : Runs Γ [] g xs σ fun v σ' => P v /\ Grow σ σ') : Runs Γ [] g xs σ fun v σ' => P v /\ Grow σ σ' /\ Wd σ' has A c := by
 refine (r.gw h.gw).mono ?_
 rintro v σ' ⟨⟨h1, h2⟩, h3⟩
 exact ⟨h1, h2, h.grow h2 h3⟩
theorem newCells_load (σ : St) (vs : List V) : (σ.newCells vs).load σ.next 0 vs.length = some vs := by
 have L := Lcl.of_cells σ vs
 rw [L.load (off := 0) (k := vs.length) (by omega)]
 congr 1
 apply List.ext_getElem (by simp)
 intro i h1 h2
 simp [lst, List.getD_eq_getElem?_getD, List.getElem?_eq_getElem h2]
theorem Wd.push {ι : Type} [DecidableEq ι] {has : ι -> Prop} {A : ι -> Nat} {c : ι -> Cont} (h : Wd σ has A c) {i0 : ι} {xl esz bytes : Nat} {f : Nat -> V} {vs : List V} {sl : V}
  (hs : (has i0 /\ sl = .slice (some (A i0, 0)) xl esz /\ c i0 = .row (xl * esz) f) \/ (¬ has i0 /\ sl = .slice none 0 0 /\ xl = 0)) (hz : 0 < esz) (hv : vs.length = esz) (m1 : (xl + 1) * bytes <= maxLenBytes) (m2 : xl + 1 <= maxLenBytes) (hf : vs.all V.flat = true) :
  ∃ b s, AM.appendV (σ.newCells vs) esz bytes sl (.slice (some (σ.next, 0)) 1 esz) = some (.slice (some (b, 0)) (xl + 1) esz, s) /\ Wd s (fun i => has i \/ i = i0) (updG A i0 b) (updG c i0 (.row (xl * esz + esz) fun j => if j < xl * esz then f j else lst vs (j - xl * esz))) := by
 have h1 : Wd (σ.newCells vs) has A c := h.new _ rfl
 have hld := newCells_load σ vs
 rw [hv] at hld
 rcases hs with ⟨hi, rfl, e⟩ | ⟨hi, rfl, rfl⟩
 ·obtain ⟨s, ha, hn, W⟩ := h1.append hi e (esz := esz) (bytes := bytes) (k := 1) (xl := xl) (vs := vs) rfl m1 m2 hf
  refine ⟨(σ.newCells vs).next, s, ?_, ?_⟩
  ·unfold AM.appendV
   simp only [Nat.one_mul, hld]
   rw [if_neg (by rintro (h | ⟨h, _⟩); omega; exact h rfl), if_neg (by omega)]
   exact ha
  ·rw [hv] at W
   refine W.sub id ?_ (fun _ _ _ _ e => e) (fun _ _ => rfl) fun _ _ => .inl rfl
   rintro k (hk | rfl)
   ·exact hk
   ·exact hi
 ·refine ⟨(σ.newCells vs).next, (σ.newCells vs).newCells vs, ?_, ?_⟩
  ·unfold AM.appendV
   simp only [Nat.one_mul, hld]
   rw [if_neg (by rintro (h | ⟨_, h⟩); omega; cases h), if_neg (by omega)]
   unfold AM.appendL
   rw [if_pos ⟨m1, m2, hf⟩]
   simp only [if_true]
  ·have W := h1.cells hi vs
   refine W.sub id (fun _ h => h) (fun _ _ _ _ e => e) (fun _ _ => rfl) ?_
   rintro k hk
   by_cases ck : k = i0
   ·subst ck
    right
    refine ⟨_, _, _, _, updG_same .., updG_same .., by omega, ?_⟩
    intro j hj
    rw [if_neg (by omega), Nat.zero_mul, Nat.sub_zero]
   ·left; rw [updG_ne ck]; exact (updG_ne ck).symm
def AS.contH (S : AS) (l : List V) : AI -> Cont
 | .arena => .row 11 (lst l)
 | .chunks => .row (S.chunks.length * 2) (blkV S.chunks)
 | .stand => .row S.stand.length fun i => .int .i64 (S.stand.getD i 0)
 | .marks => .map (S.marks.getD [])
def AS.hdr (S : AS) (hp : Nat) (B : AI -> Nat) : List V := [.ptr (some (hp, 0)), .int .u64 S.chunk, S.chunksV B, .int .u64 S.taken, .int .u64 S.used, .int .u32 S.once, .int .i32 0, .int .u32 0, S.marksV B, S.standV B, .int .i64 S.made]
theorem AS.cont_eq (S : AS) (hp : Nat) (B : AI -> Nat) : S.cont hp B = S.contH (S.hdr hp B) := by funext i; cases i <;> rfl
abbrev AH (σ : St) (A : Slot -> Nat) (H : Heap) (B : AI -> Nat) (S : AS) (l : List V) : Prop := HC σ A H S.has B (S.contH l)
theorem AR.h (h : AR σ A H B S) : AH σ A H B S (S.hdr (A .heap) B) := by unfold AR HC at h; rw [AS.cont_eq] at h; exact h
theorem AH.ar (h : AH σ A H B S (S.hdr (A .heap) B)) : AR σ A H B S := by unfold AR HC; rw [AS.cont_eq]; exact h
variable {l : List V}
theorem AH.c (h : AH σ A H B S l) {k : Nat} (hk : k < 11) : σ.cell (B .arena) k = some (lst l k) := h.cell (i := .inr .arena) trivial rfl hk
theorem AH.store (h : AH σ A H B S l) (hl : l.length = 11) {k : Nat} {v : V} (hk : k < 11) (hf : v.flat = true) : ∃ s, σ.store (B .arena) k [v] = some s /\ AH s A H B S (l.set k v) /\ s.next = σ.next := by
 obtain ⟨s, e, W, hn⟩ := Wd.store h (i := (Sum.inr AI.arena : Slot ⊕ AI)) trivial (n := 11) (f := lst l) rfl (off := k) (vs := [v]) (by show k + 1 <= 11; omega) (by simp [hf])
 refine ⟨s, e, W.sub id (fun _ h => h) (fun _ _ _ _ e => e) (fun _ _ => rfl) ?_, hn⟩
 rintro (i | i) hi
 ·left; show _ = updG _ _ _ (Sum.inl i); rw [updG_ne (by intro h; cases h)]; rfl
 ·cases i with
  |arena =>
   right
   refine ⟨_, _, 11, lst (l.set k v), updG_same .., rfl, Nat.le_refl _, ?_⟩
   intro j hj
   unfold over lst
   by_cases c : k = j
   ·subst c
    rw [if_pos (by simp)]
    simp [List.getD_eq_getElem?_getD, hl, hk]
   ·rw [if_neg (by simp; omega)]
    simp [List.getD_eq_getElem?_getD, List.getElem?_set_ne c]
  |_ => left; show _ = updG _ _ _ (Sum.inr _); rw [updG_ne (by intro h; cases h)]; rfl
theorem AH.push (h : AH σ A H B S l) (hS : S.OK) (b : Nat × Nat) : ∃ b' s, AM.appendV (σ.newCells [.int .u64 b.1, .int .u64 b.2]) 2 16 (S.chunksV B) (.slice (some (σ.next, 0)) 1 2) = some (.slice (some (b', 0)) (S.chunks.length + 1) 2, s) ∧
  AH s A H (fun i => if i = .chunks then b' else B i) { S with hasC := true, chunks := S.chunks ++ [b] } l := by
 obtain ⟨b', s, ha, W⟩ := Wd.push h (i0 := .inr .chunks) (xl := S.chunks.length) (esz := 2) (bytes := 16) (f := blkV S.chunks) (vs := [.int .u64 b.1, .int .u64 b.2]) (sl := S.chunksV B) (by
   unfold AS.chunksV
   by_cases c : S.hasC = true
   ·rw [if_pos c]; exact .inl ⟨c, rfl, rfl⟩
   ·rw [if_neg c]; refine .inr ⟨c, rfl, ?_⟩
    rw [hS.nil (by simpa using c)]; rfl) (by omega) rfl (by have := hS.few; unfold maxLenBytes; omega) (by have := hS.few; unfold maxLenBytes; omega) rfl
 refine ⟨b', s, ha, W.sub id ?_ (fun _ _ _ _ e => e) ?_ ?_⟩
 ·rintro (i | i) hi
  ·exact .inl hi
  ·cases i with
   |chunks => exact .inr rfl
   |_ => exact .inl hi
 ·rintro (i | i) hi
  ·show _ = updG _ _ _ (Sum.inl i); rw [updG_ne (by intro h; cases h)]; rfl
  ·cases i with
   |chunks => exact (updG_same ..).symm
   |_ => show _ = updG _ _ _ (Sum.inr _); rw [updG_ne (by intro h; cases h)]; rfl
 ·rintro (i | i) hi
  ·left; show _ = updG _ _ _ (Sum.inl i); rw [updG_ne (by intro h; cases h)]; rfl
  ·cases i with
   |chunks =>
    right
    refine ⟨_, _, (S.chunks ++ [b]).length * 2, blkV (S.chunks ++ [b]), updG_same .., rfl, (by rw [List.length_append, List.length_singleton]; omega), ?_⟩
    intro j hj
    rw [List.length_append, List.length_singleton] at hj
    by_cases cj : j < S.chunks.length * 2
    ·rw [if_pos cj]
     unfold blkV
     simp [List.getD_eq_getElem?_getD, List.getElem?_append_left (show j / 2 < S.chunks.length by omega)]
    ·rw [if_neg cj]
     unfold blkV
     simp only [List.getD_eq_getElem?_getD, List.getElem?_append_right (show S.chunks.length <= j / 2 by omega), show j / 2 - S.chunks.length = 0 by omega]
     rcases (by omega : j = S.chunks.length * 2 \/ j = S.chunks.length * 2 + 1) with rfl | rfl
     ·rw [if_pos (by omega)]; simp [lst]
     ·rw [if_neg (by omega)]; simp [lst]
   |_ => left; show _ = updG _ _ _ (Sum.inr _); rw [updG_ne (by intro h; cases h)]; rfl
theorem max_two (a b : Nat) : AM.maxV true (.int .u64 (a : Int)) [.int .u64 (b : Int)] = some (.int .u64 ((max a b : Nat) : Int)) := by
 simp only [AM.maxV, if_true]
 by_cases c : a < b
 ·rw [Nat.max_eq_right (by omega)]; simp [show (a : Int) < (b : Int) by omega]
 ·rw [Nat.max_eq_left (by omega)]; simp [show ¬ (a : Int) < (b : Int) by omega]
end
end Go.Proofs.YtlgmpheammbacaaGreatDoor
set_option maxRecDepth 1000000
namespace Go.Proofs.YtlgmpheammbacaaGreatDoor
open AM Go
noncomputable section
set_option linter.unusedVariables false
set_option linter.unusedSimpArgs false
attribute [local irreducible] T.get T.set
variable {σ σ' : St} {A : Slot -> Nat} {H : Heap} {B : AI -> Nat} {S : AS}
theorem AR.c0 (h : AR σ A H B S) : σ.cell (B .arena) 0 = some (.ptr (some (A .heap, 0))) := (AR.h h).c (k := 0) (by omega)
theorem AR.c1 (h : AR σ A H B S) : σ.cell (B .arena) 1 = some (.int .u64 S.chunk) := (AR.h h).c (k := 1) (by omega)
theorem AR.c2 (h : AR σ A H B S) : σ.cell (B .arena) 2 = some (S.chunksV B) := (AR.h h).c (k := 2) (by omega)
theorem AR.c3 (h : AR σ A H B S) : σ.cell (B .arena) 3 = some (.int .u64 S.taken) := (AR.h h).c (k := 3) (by omega)
theorem AR.c4 (h : AR σ A H B S) : σ.cell (B .arena) 4 = some (.int .u64 S.used) := (AR.h h).c (k := 4) (by omega)
def allocN (H : Heap) (S : AS) (m a : Nat) (d : Bool) : Heap × AS × Nat × Nat :=
 if (H.held.allocF (max m S.chunk) a d).2.2 = 0 then
    ((H.held.allocF (max m S.chunk) a d).1.setLock 0,
     { S with hasC := true, chunks := S.chunks ++ [((H.held.allocF (max m S.chunk) a d).2.1, (((H.held.allocF (max m S.chunk) a d).1.setLock 0).startF (H.held.allocF (max m S.chunk) a d).2.1).getD 0)], taken := m, used := (S.used + m) % 18446744073709551616 },
     (H.held.allocF (max m S.chunk) a d).2.1, 0)
   else ((H.held.allocF (max m S.chunk) a d).1.setLock 0, S, 0, (H.held.allocF (max m S.chunk) a d).2.2)
theorem tail_Alloc (hg : Good H) (hS : S.OK) {m a : Nat} (hm : m < 18446744073709551616) (ha : a < 18446744073709551616) {d : Bool} :
  ∀ (s : St), AR s A H B S -> ∀ (fr : AM.Fr) (K : Post), fr.defers = [] -> fr.tmps.get 0 = some (.ptr (some (B .arena, 0))) -> fr.tmps.get 1 = some (.int .u64 m) -> fr.tmps.get 2 = some (.int .u64 a) -> fr.tmps.get 3 = some (.bool d) →
   (∀ fr' s' A' B', fr'.defers = [] -> AR s' A' (allocN H S m a d).1 B' (allocN H S m a d).2.1 -> A' .heap = A .heap -> B' .arena = B .arena -> fr'.tmps.get 8 = some (.int .u64 (allocN H S m a d).2.2.1) -> fr'.tmps.get 9 = some (.int .i64 (allocN H S m a d).2.2.2) -> K .ret fr' s') →
   wp G0 [] (hid (tlC (tlC (tlC (tlC (tlC c18.body)))))) fr s K := by
 rintro s R ⟨tm, ds⟩ K hds t0 t1 t2 t3 hK
 simp only at hds t0 t1 t2 t3
 subst hds
 rw [hid_eq]
 obtain ⟨fl, pl, fc, hI⟩ := hg.fine
 have hx : max m S.chunk < 18446744073709551616 := by have := hS.chunk; omega
 obtain ⟨v, s1, ⟨A1, R1, hA1, hv⟩, hr1⟩ := HC.call (Γ := G0) (Γ' := G0) (M := []) (fun _ _ h => h) (fun _ h => nomatch h) R fun s hs => r_AllocF hs hI hg.lock hx ha d
 subst hv
 have hf1 := hI.setLock 1
 have hfine := (hf1.allocF hx ha d).1
 have hfl := (hf1.allocF hx ha d).2
 unfold allocN at hK
 rw [show H.setLock 1 = H.held from rfl] at hfine hfl
 generalize hq : H.held.allocF (max m S.chunk) a d = q at *
 obtain ⟨H1, p, e⟩ := q
 simp only at hK R1 hr1 hfine hfl
 have R1' : AR s1 A1 (H1.setLock 0) B S := by unfold AR; rw [hA1]; exact R1
 have m1 := max_two m S.chunk
 simp -implicitDefEqProofs only [tlC, c18]
 simp -implicitDefEqProofs only [go_sem, Nat.reduceEqDiff, Nat.reduceLeDiff, t0, t1, t2, t3, R.c0, R.c1, pure_mm, m1]
 refine runs_ret hr1 ?_
 have k0 : s1.cell (B .arena) 0 = some (.ptr (some (A .heap, 0))) := by rw [<- hA1]; exact R1'.c0
 have k1 := R1'.c1
 by_cases c : e = 0
 ·subst c
  rw [if_pos rfl] at hK
  have c1 : ¬ (((0 : Nat) : Int) ≠ 0) := by omega
  simp -implicitDefEqProofs only [go_sem, Nat.reduceEqDiff, Nat.reduceLeDiff, t0, t1, t2, t3, k0, k1, pure_mm, m1, c1]
  have hS1 : ∀ x, S.chunksV x = S.chunksV x := fun _ => rfl
  obtain ⟨fl1, pl1, fc1, hI1⟩ := hfine
  have hI2 := hI1.setLock 0
  obtain ⟨v, s2, ⟨A2, R2, hA2, hv⟩, hr2⟩ := HC.call (Γ := G0) (Γ' := G0) (M := []) (P := fun v A' => A' .heap = A1 .heap /\ v = match (H1.setLock 0).startF p with | some w => .tuple [.int .u64 w, .int .i64 0] | none => .tuple [.int .u64 0, .int .i64 1]) (fun _ _ h => h) (fun _ h => nomatch h) R1 fun s hs => (r_UsableF hs hI2 rfl p).mono fun v s' ⟨h1, h2⟩ => ⟨A1, h1, rfl, h2⟩
  rw [hA1] at hr2
  obtain ⟨w, x, hw, hv'⟩ : ∃ (w : Nat) (x : Int), ((H1.setLock 0).startF p).getD 0 = w /\ v = .tuple [.int .u64 w, .int .i64 x] := by
   cases hh : (H1.setLock 0).startF p with
   |some w => rw [hh] at hv; exact ⟨w, 0, rfl, hv⟩
   |none => rw [hh] at hv; exact ⟨0, 1, rfl, hv⟩
  subst hv'
  rw [hw] at hK
  have R2' : AR s2 A2 (H1.setLock 0) B S := by unfold AR; rw [hA2, hA1]; exact R2
  obtain ⟨b3, s3, ha3, R3⟩ := AH.push (AR.h R2') hS (p, w)
  obtain ⟨s4, hs4, R4, hn4⟩ := R3.store (by rfl) (k := 2) (v := .slice (some (b3, 0)) (S.chunks.length + 1) 2) (by omega) rfl
  obtain ⟨s5, hs5, R5, hn5⟩ := R4.store (by simp [AS.hdr]) (k := 3) (v := .int .u64 m) (by omega) rfl
  have g5 := R5.c (k := 4) (by omega)
  obtain ⟨s6, hs6, R6, hn6⟩ := R5.store (by simp [AS.hdr]) (k := 4) (v := .int .u64 ((S.used + m) % 18446744073709551616 : Nat)) (by omega) rfl
  have q2 : s2.cell (B .arena) 2 = some (S.chunksV B) := R2'.c2
  have hs4' : s3.store (B .arena) 2 [.slice (some (b3, 0)) (S.chunks.length + 1) 2] = some s4 := hs4
  have hs5' : s4.store (B .arena) 3 [.int .u64 m] = some s5 := hs5
  have hs6' : s5.store (B .arena) 4 [.int .u64 ((S.used + m) % 18446744073709551616 : Nat)] = some s6 := hs6
  have g5' : s5.cell (B .arena) 4 = some (.int .u64 S.used) := g5
  have eu : IntKind.u64.wrap ((S.used : Int) + (m : Int)) = (((S.used + m) % 18446744073709551616 : Nat) : Int) := by
   rw [<- Int.natCast_add]; unfold IntKind.wrap; simp [IntKind.bits, IntKind.signed, Int.emod]
  have f1 : fillP [V.int .u64 0, .int .u64 0] [(0, 1, V.int .u64 p), (1, 1, V.int .u64 w)] = some [V.int .u64 p, .int .u64 w] := rfl
  have f2 : fillP (repeatZ [V.int .u64 0, .int .u64 0] 1) [(0, 2, V.agg [V.int .u64 p, .int .u64 w])] = some [V.int .u64 p, .int .u64 w] := rfl
  refine ⟨by rw [R.c0, R.c1]; simp only [sameV_refl, Bool.and_self], ?_⟩
  refine runs_ret hr2 ?_
  simp -implicitDefEqProofs only [go_sem, Nat.reduceEqDiff, Nat.reduceLeDiff, t0, t1, t2, t3, q2, List.length_cons, List.length_nil, Nat.reduceAdd, vcells_agg, vcells_slice, vcells_int, evalParts, f1, f2, ha3, hs4', hs5', hs6', g5', eu]
  refine hK _ s6 A2 (fun i => if i = AI.chunks then b3 else B i) rfl ?_ (hA2.trans hA1) rfl ?_ ?_
  ·refine AH.ar ?_
   have e : AS.hdr { S with hasC := true, chunks := S.chunks ++ [(p, w)], taken := m, used := (S.used + m) % 18446744073709551616 } (A2 .heap) (fun i => if i = AI.chunks then b3 else B i) = ((((S.hdr (A2 .heap) B).set 2 (.slice (some (b3, 0)) (S.chunks.length + 1) 2)).set 3 (.int .u64 m)).set 4 (.int .u64 ((S.used + m) % 18446744073709551616 : Nat))) := by
    simp [AS.hdr, AS.chunksV, AS.marksV, AS.standV, AS.marks, AS.stand, AS.once]
   rw [e]; exact R6
  ·simp -implicitDefEqProofs only [go_sem, Nat.reduceEqDiff]
  ·simp -implicitDefEqProofs only [go_sem, Nat.reduceEqDiff]; rfl
 ·rw [if_neg c] at hK
  have c1 : ((e : Nat) : Int) ≠ 0 := by omega
  simp -implicitDefEqProofs only [go_sem, Nat.reduceEqDiff, Nat.reduceLeDiff, t0, t1, t2, t3, k0, k1, pure_mm, m1, c1, ne_eq, not_false_eq_true]
  refine ⟨by rw [R.c0, R.c1]; simp only [sameV_refl, Bool.and_self], ?_⟩
  refine hK _ s1 A1 B rfl R1' hA1 rfl ?_ ?_
  ·simp -implicitDefEqProofs only [go_sem, Nat.reduceEqDiff]; rfl
  ·simp -implicitDefEqProofs only [go_sem, Nat.reduceEqDiff]
end
end Go.Proofs.YtlgmpheammbacaaGreatDoor
set_option maxRecDepth 1000000
namespace Go.Proofs.YtlgmpheammbacaaGreatDoor
open AM Go
noncomputable section
set_option linter.unusedVariables false
set_option linter.unusedSimpArgs false
attribute [local irreducible] T.get T.set
variable {σ σ' : St} {A : Slot -> Nat} {H : Heap} {B : AI -> Nat} {S : AS}
theorem r_asizeW {κ : Type} {hasK : κ -> Prop} {BK : κ -> Nat} {cK : κ -> Cont} (h : HC σ A H hasK BK cK) (ok : H.OK) :
  Runs G0 [] 60 [.ptr (some (A .heap, 0))] σ fun r s => r = .int .u64 H.rsz /\ HC s A H hasK BK cK :=
 (Wd.rgrow h (r_asize h.rep ok)).mono fun _ _ ⟨h1, _, h3⟩ => ⟨h1, h3⟩
theorem last_get {l : List (Nat × Nat)} {t : Nat × Nat} (h : l.getLast? = some t) : 0 < l.length /\ l.getD (l.length - 1) (0, 0) = t := by
 rw [List.getLast?_eq_getElem?] at h
 have hl : 0 < l.length := by
  rcases Nat.eq_zero_or_pos l.length with z | z
  ·rw [List.getElem?_eq_none (by omega)] at h; cases h
  ·exact z
 exact ⟨hl, by rw [List.getD_eq_getElem?_getD, h]; rfl⟩
theorem blkV_at {l : List (Nat × Nat)} {i : Nat} {t : Nat × Nat} (h : l.getD i (0, 0) = t) : ((List.range 2).map fun j => blkV l (i * 2 + j)) = [V.int .u64 t.1, .int .u64 t.2] := by
 show [blkV l (i * 2 + 0), blkV l (i * 2 + 1)] = _
 unfold blkV
 rw [if_pos (by omega), if_neg (by omega), show (i * 2 + 0) / 2 = i by omega, show (i * 2 + 1) / 2 = i by omega, h]
theorem AS.fit_last {S : AS} {m a : Nat} {t : Nat × Nat} (h : S.chunks.getLast? = some t) : S.fit m a = if (t.1 + S.taken + a - 1) / a * a + m <= t.1 + t.2 then some ((t.1 + S.taken + a - 1) / a * a) else none := by
 unfold AS.fit; rw [h]
theorem r_AllocT (h : AR σ A H B S) (hg : Good H) (hS : S.OK) {n a : Nat} (hn : n < 18446744073709551616) (ha : a < 18446744073709551616) (d : Bool) :
  Runs G0 [] 18 [.ptr (some (B .arena, 0)), .int .u64 n, .int .u64 a, .bool d] σ fun r s => ∃ A' B', AR s A' (allocA H S n a d).1 B' (allocA H S n a d).2.1 /\ A' .heap = A .heap /\ B' .arena = B .arena /\ r = .tuple [.int .u64 (allocA H S n a d).2.2.1, .int .i64 (allocA H S n a d).2.2.2] := by
 refine runs_body g18 rfl ?_
 refine wp_cut 5 ?_
 rw [cutC, cutC, cutC, cutC, cutC, cutC]
 obtain ⟨fl, pl, fc, hI⟩ := hg.fine
 have ok := hI.ok
 unfold allocA
 by_cases c0 : (a : Int) = 0
 ·have hp : isPow a = false := by rw [show a = 0 by omega]; rfl
  rw [if_pos hp]
  simp -implicitDefEqProofs only [go_sem, Nat.reduceEqDiff, c0]
  exact ⟨A, B, h, rfl, rfl, rfl⟩
 ·have e1 : IntKind.u64.wrap ((a : Int) - 1) = ((a - 1 : Nat) : Int) := u64_sub (b := 1) (by omega) ha
  have e2 := u64_and (a := a) (b := a - 1) ha (by omega)
  by_cases c1 : a &&& (a - 1) = 0
  ·have hp : isPow a = true := by unfold isPow; simp; exact ⟨by omega, c1⟩
   rw [if_neg (by rw [hp]; simp)]
   have c1' : ¬ (((a &&& (a - 1) : Nat) : Int) ≠ 0) := by rw [c1]; simp
   have m1 := max_two n 1
   rw [show ((1 : Nat) : Int) = 1 from rfl] at m1
   have hm64 : max n 1 < 18446744073709551616 := by omega
   obtain ⟨m, hm⟩ : ∃ m, max n 1 = m := ⟨_, rfl⟩
   rw [hm] at m1 hm64 ⊢
   have hz := rsz_le ok
   obtain ⟨v, s1, ⟨hv, R1⟩, hr1⟩ := r_asizeW h ok
   subst hv
   have R1' : AR s1 A H B S := R1
   obtain ⟨v, s2, ⟨hv, R2⟩, hr2⟩ := r_asizeW R1 ok
   subst hv
   have R2' : AR s2 A H B S := R2
   by_cases c2 : H.rsz < m
   ·rw [if_pos (.inl c2)]
    have c2' : (H.rsz : Int) < (m : Int) := by omega
    simp -implicitDefEqProofs only [go_sem, Nat.reduceEqDiff, c0, decide_false, e1, e2, c1', h.c0, pure_mm, m1]
    refine runs_ret hr1 ?_
    simp -implicitDefEqProofs only [go_sem, Nat.reduceEqDiff, c2', decide_true, R1'.c0]
    exact ⟨A, B, R1, rfl, rfl, rfl⟩
   ·have c2' : ¬ (H.rsz : Int) < (m : Int) := by omega
    by_cases c3 : H.rsz < a
    ·rw [if_pos (.inr c3)]
     have c3' : (H.rsz : Int) < (a : Int) := by omega
     simp -implicitDefEqProofs only [go_sem, Nat.reduceEqDiff, c0, decide_false, e1, e2, c1', h.c0, pure_mm, m1]
     refine runs_ret hr1 ?_
     simp -implicitDefEqProofs only [go_sem, Nat.reduceEqDiff, c2', R1'.c0]
     refine runs_ret hr2 ?_
     simp -implicitDefEqProofs only [go_sem, Nat.reduceEqDiff, c3']
     exact ⟨A, B, R2, rfl, rfl, rfl⟩
    ·rw [if_neg (by omega)]
     have c3' : ¬ (H.rsz : Int) < (a : Int) := by omega
     simp -implicitDefEqProofs only [go_sem, Nat.reduceEqDiff, c0, decide_false, e1, e2, c1', h.c0, pure_mm, m1]
     refine runs_ret hr1 ?_
     simp -implicitDefEqProofs only [go_sem, Nat.reduceEqDiff, c2', R1'.c0]
     refine runs_ret hr2 ?_
     cases hL : S.chunks.getLast? with
     |none =>
      have hnil : S.chunks = [] := List.getLast?_eq_none_iff.mp hL
      have hV : ∃ q z, S.chunksV B = .slice q 0 z := by
       unfold AS.chunksV
       by_cases c : S.hasC = true
       ·rw [if_pos c, hnil]; exact ⟨_, _, rfl⟩
       ·rw [if_neg c]; exact ⟨_, _, rfl⟩
      obtain ⟨q, z, hV⟩ := hV
      have k2 : s2.cell (B .arena) 2 = some (.slice q 0 z) := by rw [<- hV]; exact R2'.c2
      have hfit : S.fit m a = none := by unfold AS.fit; rw [hL]
      have c4 : ¬ ((0 : Int) < ((0 : Nat) : Int)) := by omega
      simp -implicitDefEqProofs only [go_sem, Nat.reduceEqDiff, c3', k2, c4]
      refine tail_Alloc hg hS hm64 ha (d := d) _ R2' _ _ rfl ?_ ?_ ?_ ?_ ?_
      ·simp -implicitDefEqProofs only [go_sem, Nat.reduceEqDiff]
      ·simp -implicitDefEqProofs only [go_sem, Nat.reduceEqDiff]
      ·simp -implicitDefEqProofs only [go_sem, Nat.reduceEqDiff]
      ·simp -implicitDefEqProofs only [go_sem, Nat.reduceEqDiff]
      ·rintro ⟨tm, ds⟩ s' A' B' hds R' hA' hB' t8 t9
       simp only at hds t8 t9; subst hds
       simp -implicitDefEqProofs only [go_sem, Nat.reduceEqDiff, t8, t9]
       rw [hfit]
       exact ⟨A', B', R', hA', hB', rfl⟩
     |some t =>
      obtain ⟨hk, ht⟩ := last_get hL
      have hC : S.hasC = true := by
       cases hh : S.hasC with
       |true => rfl
       |false => rw [hS.nil hh] at hk; exact absurd hk (by simp)
      have hV : S.chunksV B = .slice (some (B .chunks, 0)) S.chunks.length 2 := by unfold AS.chunksV; rw [if_pos hC]
      have k2 : s2.cell (B .arena) 2 = some (.slice (some (B .chunks, 0)) S.chunks.length 2) := by rw [<- hV]; exact R2'.c2
      have hfew := hS.few
      have hld : s2.load (B .chunks) ((S.chunks.length - 1) * 2) 2 = some [V.int .u64 t.1, .int .u64 t.2] := by
       have := Wd.load R2' (i := (Sum.inr AI.chunks : Slot ⊕ AI)) hC (n := S.chunks.length * 2) (f := blkV S.chunks) rfl (off := (S.chunks.length - 1) * 2) (k := 2) (by omega)
       rw [blkV_at ht] at this; exact this
      have c4 : (0 : Int) < (S.chunks.length : Int) := by omega
      have e4 : IntKind.i64.wrap ((S.chunks.length : Int) - 1) = ((S.chunks.length - 1 : Nat) : Int) := i64_sub (b := 1) (by omega) (by omega)
      have c5 : (0 : Int) <= ((S.chunks.length - 1 : Nat) : Int) /\ ((S.chunks.length - 1 : Nat) : Int) < (S.chunks.length : Int) := by omega
      obtain ⟨P, Z⟩ := t
      have hst := new_store (σ := s2) (z := [.int .u64 0, .int .u64 0]) (vs := [.int .u64 P, .int .u64 Z]) (n := 2) (by simp) rfl
      have L := Lcl.lay s2 2 [.int .u64 0, .int .u64 0] [.int .u64 P, .int .u64 Z] rfl
      have R3 : AR (s2.lay 2 [.int .u64 0, .int .u64 0] [.int .u64 P, .int .u64 Z]) A H B S := Wd.lay R2' (by simp) rfl
      have l0 := L.cell (i := 0) (by omega)
      have l1 := L.cell (i := 1) (by omega)
      rw [show lst [V.int .u64 P, .int .u64 Z] 0 = .int .u64 P from rfl] at l0
      rw [show lst [V.int .u64 P, .int .u64 Z] 1 = .int .u64 Z from rfl] at l1
      have a3 := R3.c3
      have hPZ : P + Z <= 9223372036854775808 := (hS.chunks (P, Z) (by
       have : S.chunks.getLast? = some (P, Z) := hL
       exact List.mem_of_getLast? this)).1
      have htk := hS.taken
      obtain ⟨j, hj⟩ := isPow_two hp
      have hj64 : j < 64 := by
       refine Decidable.byContradiction fun c => ?_
       have : 2 ^ 64 <= 2 ^ j := Nat.pow_le_pow_right (by omega) (by omega)
       omega
      have w1 : IntKind.u64.wrap ((P : Int) + (S.taken : Int)) = ((P + S.taken : Nat) : Int) := u64_add (by omega)
      have w2 : IntKind.u64.wrap (((P + S.taken : Nat) : Int) + (a : Int)) = ((P + S.taken + a : Nat) : Int) := u64_add (by omega)
      have w3 : IntKind.u64.wrap (((P + S.taken + a : Nat) : Int) - 1) = ((P + S.taken + a - 1 : Nat) : Int) := u64_sub (b := 1) (by omega) (by omega)
      have w4 : andNotI .u64 ((P + S.taken + a - 1 : Nat) : Int) ((a - 1 : Nat) : Int) = (((P + S.taken + a - 1) / a * a : Nat) : Int) := by
       rw [hj]; exact andNot_down (by omega) hj64
      have hlo : P + S.taken <= (P + S.taken + a - 1) / a * a := by
       have := Nat.div_add_mod (P + S.taken + a - 1) a
       have h2 := Nat.mod_lt (P + S.taken + a - 1) (show 0 < a by omega)
       rw [Nat.mul_comm] at this
       omega
      have hhi : (P + S.taken + a - 1) / a * a <= P + S.taken + a - 1 := Nat.div_mul_le_self _ _
      have hfit := AS.fit_last (S := S) (m := m) (a := a) hL
      simp only at hfit
      obtain ⟨p, hpd⟩ : ∃ p, p = (P + S.taken + a - 1) / a * a := ⟨_, rfl⟩
      rw [<- hpd] at w4 hlo hhi hfit
      have w5 : IntKind.u64.wrap ((p : Int) + (m : Int)) = ((p + m : Nat) : Int) := u64_add (by omega)
      have w6 : IntKind.u64.wrap ((P : Int) + (Z : Int)) = ((P + Z : Nat) : Int) := u64_add (by omega)
      have w7 : IntKind.u64.wrap (((p + m : Nat) : Int) - (P : Int)) = ((p + m - P : Nat) : Int) := u64_sub (by omega) (by omega)
      by_cases c6 : p + m <= P + Z
      ·have c6' : ((p + m : Nat) : Int) <= ((P + Z : Nat) : Int) := by omega
       rw [hfit, if_pos c6]
       obtain ⟨s4, hs4, R4, hn4⟩ := (AR.h R3).store (by rfl) (k := 3) (v := .int .u64 (p + m - P : Nat)) (by omega) rfl
       have g4 := R4.c (k := 4) (by omega)
       have g4' : s4.cell (B .arena) 4 = some (.int .u64 S.used) := g4
       obtain ⟨s5, hs5, R5, hn5⟩ := R4.store (by simp [AS.hdr]) (k := 4) (v := .int .u64 ((S.used + m) % 18446744073709551616 : Nat)) (by omega) rfl
       have eu : IntKind.u64.wrap ((S.used : Int) + (m : Int)) = (((S.used + m) % 18446744073709551616 : Nat) : Int) := by
        rw [<- Int.natCast_add]; unfold IntKind.wrap; simp [IntKind.bits, IntKind.signed, Int.emod]
       simp -implicitDefEqProofs only [go_sem, Nat.reduceEqDiff, c3', k2, c4, e4, c5, and_self, hld, Int.toNat_natCast, vcells_agg, vcells_int, List.length_cons, List.length_nil, Nat.reduceAdd, hst, l0, l1, a3, w1, w2, w3, e1, w4, w5, w6, c6', hs4, g4', eu, hs5, w7]
       refine ⟨A, B, AH.ar ?_, rfl, rfl, rfl⟩
       have e : AS.hdr { S with taken := p + m - P, used := (S.used + m) % 18446744073709551616 } (A .heap) B = (((S.hdr (A .heap) B).set 3 (.int .u64 (p + m - P : Nat))).set 4 (.int .u64 ((S.used + m) % 18446744073709551616 : Nat))) := by
        simp [AS.hdr, AS.chunksV, AS.marksV, AS.standV, AS.marks, AS.stand, AS.once]
       rw [e]; exact R5
      ·have c6' : ¬ ((p + m : Nat) : Int) <= ((P + Z : Nat) : Int) := by omega
       rw [if_neg c6] at hfit
       rw [hfit]
       simp -implicitDefEqProofs only [go_sem, Nat.reduceEqDiff, c3', k2, c4, e4, c5, and_self, hld, Int.toNat_natCast, vcells_agg, vcells_int, List.length_cons, List.length_nil, Nat.reduceAdd, hst, l0, l1, a3, w1, w2, w3, e1, w4, w5, w6, c6']
       refine tail_Alloc hg hS hm64 ha (d := d) _ R3 _ _ rfl ?_ ?_ ?_ ?_ ?_
       ·simp -implicitDefEqProofs only [go_sem, Nat.reduceEqDiff]
       ·simp -implicitDefEqProofs only [go_sem, Nat.reduceEqDiff]
       ·simp -implicitDefEqProofs only [go_sem, Nat.reduceEqDiff]
       ·simp -implicitDefEqProofs only [go_sem, Nat.reduceEqDiff]
       ·rintro ⟨tm, ds⟩ s' A' B' hds R' hA' hB' t8 t9
        simp only at hds t8 t9; subst hds
        simp -implicitDefEqProofs only [go_sem, Nat.reduceEqDiff, t8, t9]
        exact ⟨A', B', R', hA', hB', rfl⟩
  ·have hp : isPow a = false := by unfold isPow; simp; exact fun _ => c1
   rw [if_pos hp]
   have c1' : ((a &&& (a - 1) : Nat) : Int) ≠ 0 := by omega
   simp -implicitDefEqProofs only [go_sem, Nat.reduceEqDiff, c0, decide_false, e1, e2, c1', ne_eq, not_false_eq_true, decide_true]
   exact ⟨A, B, h, rfl, rfl, rfl⟩
end
end Go.Proofs.YtlgmpheammbacaaGreatDoor
set_option maxRecDepth 1000000
namespace Go.Proofs.YtlgmpheammbacaaGreatDoor
open AM Go
noncomputable section
set_option linter.unusedVariables false
variable {H H' : Heap} {fl pl fc : Nat -> List Nat}
structure Gave (H H' : Heap) (d : Bool) (p s : Nat) : Prop where
 live : ∀ a w, LiveB H' a w ↔ LiveB H a w \/ (a = p /\ w = s)
 new : ∀ a w, LiveB H a w -> a + w <= p \/ p + s <= a
 bytes : Bytes H H'
 full : Full H -> Full H'
 base : H'.base = H.base
 order : H'.order = H.order
 limit : H'.limit = H.limit
 regs : H'.regs = H.regs \/ (d = false /\ H.regs < H.limit /\ H'.regs = H.regs + 1)
 al : p % s = 0
 lo : H.base <= p
 hi : p + s <= H'.base + 4096 * H'.np
theorem Needed.regs {k p : Nat} {d : Bool} (n : Needed H k d H' (some p)) : H'.regs = H.regs \/ (d = false /\ H.regs < H.limit /\ H'.regs = H.regs + 1) := by
 cases n with
 |old h t => exact .inl t.same.regs
 |grew h1 h2 h3 g t => exact .inr ⟨h2, h3, by rw [t.same.regs, g.regs]⟩
theorem run_al (ok : H.OK) {x k : Nat} (hk : k <= H.order) (h : x % 2 ^ k = 0) : H.addr x % (4096 * 2 ^ k) = 0 := by
 have hb := ok.base_al
 have d1 : 4096 * 2 ^ k ∣ H.base := by
  refine Nat.dvd_trans ?_ (Nat.dvd_of_mod_eq_zero hb)
  unfold Heap.rsz
  exact Nat.mul_dvd_mul_left _ (Nat.pow_dvd_pow 2 hk)
 have d2 : 4096 * 2 ^ k ∣ 4096 * x := Nat.mul_dvd_mul_left _ (Nat.dvd_of_mod_eq_zero h)
 exact Nat.mod_eq_zero_of_dvd (by unfold Heap.addr; exact Nat.dvd_add d1 d2)
theorem Needed.gave (h : Inv H fl pl fc (fun _ => False)) {k p : Nat} {d : Bool} (hk : k <= H.order) (n : Needed H k d H' (some p)) : Gave H H' d (H.addr p) (4096 * 2 ^ k) := by
 obtain ⟨b1, b2, b3, b4, b5, b6⟩ := n.base
 have := b6 p rfl
 refine ⟨fun a w => n.live, fun a w hl => n.fresh h hl, n.bytes h, n.full, b1, b2, b3, n.regs, run_al h.ok hk n.is.1, by unfold Heap.addr; omega, ?_⟩
 rw [b1]; unfold Heap.addr
 generalize 2 ^ k = z at *
 omega
theorem Celled.gave (h : Inv H fl pl fc (fun _ => False)) {p q c : Nat} {d : Bool} (hc : c < 8) (t : Celled H H' p q c) (e : (0 <= H.part c /\ H'.Same H) \/ (¬ 0 <= H.part c /\ ∃ H1, Needed H 0 d H1 (some p) /\ H'.Same H1)) : Gave H H' d (H.addr p + q * (16 * 2 ^ c)) (16 * 2 ^ c) := by
 have hb : H'.base = H.base /\ H'.order = H.order /\ H'.limit = H.limit := by
  rcases e with ⟨_, s⟩ | ⟨_, H1, n, s⟩
  ·exact ⟨s.base, s.order, s.limit⟩
  ·obtain ⟨b1, b2, b3, _⟩ := n.base
   exact ⟨s.base.trans b1, s.order.trans b2, s.limit.trans b3⟩
 have w := w8 hc
 have hcell := t.cell
 have hpg := t.page
 have hq : q * (16 * 2 ^ c) + 16 * 2 ^ c <= 4096 := by
  have : (q + 1) * (16 * 2 ^ c) <= (256 / 2 ^ c) * (16 * 2 ^ c) := Nat.mul_le_mul_right _ (by omega)
  rw [Nat.add_mul, Nat.one_mul, Nat.mul_comm (256 / 2 ^ c), w.1] at this
  exact this
 refine ⟨t.live, t.new, t.bytes, t.full, hb.1, hb.2.1, hb.2.2, ?_, ?_, by unfold Heap.addr; omega, ?_⟩
 ·rcases e with ⟨_, s⟩ | ⟨_, H1, n, s⟩
  ·exact .inl s.regs
  ·rcases n.regs with r | ⟨r1, r2, r3⟩
   ·exact .inl (s.regs.trans r)
   ·exact .inr ⟨r1, r2, s.regs.trans r3⟩
 ·have d0 : 16 * 2 ^ c ∣ 4096 := ⟨256 / 2 ^ c, w.1.symm⟩
  have d1 : 16 * 2 ^ c ∣ H.base := Nat.dvd_trans d0 (Nat.dvd_of_mod_eq_zero (base_4096 h.ok))
  have d2 : 16 * 2 ^ c ∣ 4096 * p := Nat.dvd_trans d0 (Nat.dvd_mul_right _ _)
  exact Nat.mod_eq_zero_of_dvd (Nat.dvd_add (by unfold Heap.addr; exact Nat.dvd_add d1 d2) (Nat.dvd_mul_left _ _))
 ·rw [hb.1]; unfold Heap.addr
  generalize q * (16 * 2 ^ c) = u at *
  generalize 16 * 2 ^ c = z at *
  omega
theorem Inv.mtake_gave (h : Inv H fl pl fc (fun _ => False)) {b : Nat} (hb : 4 <= b) (hle : ¬ H.rsz < 2 ^ b) (d : Bool) : match (H.mtakeF (2 ^ b) d).2 with
  |some p => Gave H (H.mtakeF (2 ^ b) d).1 d p (2 ^ b)
  |none => (H.mtakeF (2 ^ b) d).1 = H := by
 unfold Heap.mtakeF
 rcases size_cases h.ok hb hle with ⟨c, h1, h2, h3, h4⟩ | ⟨k, h1, h2, h3, h4⟩
 ·rw [if_pos h3, h4]
  have := h.celled h1 d
  cases ho : (H.stakeF c d).2 with
  |some x =>
   rw [ho] at this
   simp only [Option.map_some]
   rw [h2]
   exact this.1.gave h h1 this.2
  |none =>
   rw [ho] at this
   exact this.1
 ·rw [if_neg h3, h4]
  obtain ⟨n, _⟩ := h.needF h1 d
  cases ho : (H.needF k d).2 with
  |some p =>
   rw [ho] at n
   simp only [Option.map_some]
   rw [h2]
   exact n.gave h h1
  |none =>
   rw [ho] at n
   simp only [Option.map_none]
   generalize hg : (H.needF k d).1 = G at n
   cases n; rfl
inductive AllocIs (H : Heap) (n a : Nat) (d : Bool) : Heap × Nat × Nat -> Prop
 |einval : isPow a = false -> AllocIs H n a d (H, 0, 1)
 |etoobig : isPow a = true -> H.rsz < roundP n a -> AllocIs H n a d (H, 0, 3)
 |enomem : isPow a = true -> ¬ H.rsz < roundP n a -> AllocIs H n a d (H, 0, 2)
 |ok {H' : Heap} {p : Nat} : isPow a = true -> ¬ H.rsz < roundP n a -> Gave H H' d p (roundP n a) -> AllocIs H n a d (H', p, 0)
theorem Inv.alloc_is (h : Inv H fl pl fc (fun _ => False)) {n a : Nat} (hn : n < 18446744073709551616) (ha : a < 18446744073709551616) (d : Bool) : AllocIs H n a d (H.allocF n a d) := by
 unfold Heap.allocF
 by_cases c : isPow a = false
 ·rw [if_pos c]; exact .einval c
 ·rw [if_neg c]
  have hp : isPow a = true := by cases hx : isPow a; exact (c hx).elim; rfl
  by_cases c2 : H.rsz < roundP n a
  ·rw [if_pos c2]; exact .etoobig hp c2
  ·rw [if_neg c2]
   obtain ⟨b, hb, e⟩ := roundP_pow hn ha
   have g := h.mtake_gave hb (by rw [<- e]; exact c2) d
   rw [<- e] at g
   split at g
   ·rename_i p hp2
    rw [hp2]
    exact .ok hp c2 g
   ·rename_i hp2
    rw [hp2, g]
    exact .enomem hp c2
theorem Gave.locks {d : Bool} {p s : Nat} (g : Gave H.held H' d p s) : Gave H (H'.setLock 0) d p s :=
 ⟨fun a w => g.live a w, fun a w => g.new a w, fun a s h => g.bytes a s h, fun h => g.full h, g.base, g.order, g.limit, g.regs, g.al, g.lo, g.hi⟩
theorem Good.setLock0 (h : Fine H) (hf : Full H) : Good (H.setLock 0) := by
 obtain ⟨fl, pl, fc, i⟩ := h
 exact ⟨⟨fl, pl, fc, i.setLock 0⟩, hf, rfl⟩
def allocH (H : Heap) (n a : Nat) (d : Bool) : Heap × Nat × Nat := ((H.held.allocF n a d).1.setLock 0, (H.held.allocF n a d).2)
theorem Good.alloc (g : Good H) {n a : Nat} (hn : n < 18446744073709551616) (ha : a < 18446744073709551616) (d : Bool) : AllocIs H n a d (allocH H n a d) /\ Good (allocH H n a d).1 := by
 obtain ⟨fl, pl, fc, i⟩ := g.fine
 have i1 := i.setLock 1
 have hf := (i1.allocF hn ha d).1
 have hi := i1.alloc_is hn ha d
 have hl := g.lock
 unfold allocH Heap.held
 revert hi hf
 generalize (H.setLock 1).allocF n a d = r
 intro hf hi
 have e : (H.setLock 1).setLock 0 = H := setLock_id hl
 cases hi with
 |einval c => simp only; rw [e]; exact ⟨.einval c, g⟩
 |etoobig c c2 => simp only; rw [e]; exact ⟨.etoobig c c2, g⟩
 |enomem c c2 => simp only; rw [e]; exact ⟨.enomem c c2, g⟩
 |ok c c2 gv => exact ⟨.ok c c2 (Gave.locks gv), Good.setLock0 hf (gv.full g.full)⟩
end
end Go.Proofs.YtlgmpheammbacaaGreatDoor
set_option maxRecDepth 1000000
namespace Go.Proofs.YtlgmpheammbacaaGreatDoor
open AM Go
noncomputable section
set_option linter.unusedVariables false
variable {H H' : Heap} {S : AS} {fl pl fc : Nat -> List Nat}
theorem nodup_few : ∀ (N lo : Nat) (l : List Nat), l.Nodup -> (∀ x ∈ l, lo <= x /\ x < lo + N) -> l.length <= N := by
 intro N
 induction N with
 |zero =>
  intro lo l _ h
  cases l with
  |nil => exact Nat.le_refl _
  |cons x r => have := h x (List.mem_cons_self ..); omega
 |succ N ih =>
  intro lo l hn h
  have h1 : (l.erase (lo + N)).length <= N := by
   refine ih lo _ (hn.erase _) fun x hx => ?_
   rw [hn.mem_erase_iff] at hx
   have := h x hx.2
   omega
  rw [List.length_erase] at h1
  split at h1 <;> omega
theorem Inv.live_range (h : Inv H fl pl fc (fun _ => False)) {a s : Nat} (hl : LiveB H a s) : H.base <= a /\ a + s <= H.base + 4096 * H.np /\ 16 <= s := by
 obtain ⟨x, hx, hl⟩ := hl
 have hs : 16 <= s /\ H.base <= a := by
  rcases hl with ⟨_, k, _, rfl, rfl⟩ | ⟨_, c, q, _, _, _, rfl, rfl⟩
  ·have := pow_pos' k
   refine ⟨by omega, by unfold Heap.addr; omega⟩
  ·have := pow_pos' c
   refine ⟨by omega, by unfold Heap.addr; omega⟩
 obtain ⟨y, j, h1, h2, h3, _⟩ := h.live_pages hx hl (i := s - 1) (by omega)
 exact ⟨hs.2, by omega, hs.1⟩
theorem np_few (ok : H.OK) : H.np <= 1024 := by
 have h1 := ok.pages_le
 have h2 : H.regs * 2 ^ H.order <= H.limit * 2 ^ H.order := Nat.mul_le_mul_right _ ok.regs_le
 unfold Heap.np
 omega
theorem end_np (ok : H.OK) : H.base + 4096 * H.np <= 9223372036854775808 := by
 have h1 := ok.end_le
 have h2 : H.rsz * H.regs <= H.rsz * H.limit := Nat.mul_le_mul_left _ ok.regs_le
 rw [rsz_np] at h2
 omega
structure ArOk (H : Heap) (S : AS) : Prop where
 live : ∀ b, b ∈ S.chunks -> LiveB H b.1 b.2
 nodup : (S.chunks.map (·.1)).Nodup
 taken : S.taken <= 8388608
 used : S.used < 18446744073709551616
 chunk : S.chunk <= H.rsz
 nil : S.hasC = false -> S.chunks = []
 nilS : S.hasS = false -> S.stand = []
theorem ArOk.ok (g : Good H) (h : ArOk H S) : S.OK := by
 obtain ⟨fl, pl, fc, i⟩ := g.fine
 have h1 := end_np i.ok
 have h2 := np_few i.ok
 have h3 := rsz_le i.ok
 refine ⟨fun b hb => ?_, h.taken, h.used, by have := h.chunk; omega, h.nil, h.nilS, ?_⟩
 ·have := i.live_range (h.live b hb); omega
 ·have := nodup_few (4096 * H.np) H.base _ h.nodup fun x hx => by
   obtain ⟨b, hb, rfl⟩ := List.mem_map.1 hx
   have := i.live_range (h.live b hb); omega
  rw [List.length_map] at this; omega
theorem ArOk.alloc (g : Good H) (h : ArOk H S) {n a : Nat} (hn : n < 18446744073709551616) (ha : a < 18446744073709551616) (d : Bool) :
  Good (allocA H S n a d).1 /\ ArOk (allocA H S n a d).1 (allocA H S n a d).2.1 := by
 obtain ⟨fl, pl, fc, i⟩ := g.fine
 have hz := rsz_le i.ok
 unfold allocA
 by_cases c : isPow a = false
 ·rw [if_pos c]; exact ⟨g, h⟩
 ·rw [if_neg c]
  by_cases c2 : H.rsz < max n 1 \/ H.rsz < a
  ·rw [if_pos c2]; exact ⟨g, h⟩
  ·rw [if_neg c2]
   cases hf : S.fit (max n 1) a with
   |some p =>
    refine ⟨g, h.live, h.nodup, ?_, Nat.mod_lt _ (by omega), h.chunk, h.nil, h.nilS⟩
    unfold AS.fit at hf
    cases hL : S.chunks.getLast? with
    |none => rw [hL] at hf; cases hf
    |some t =>
     rw [hL] at hf
     simp only at hf
     split at hf
     ·rename_i hle
      cases hf
      have := i.live_range (h.live t (List.mem_of_getLast? hL))
      have h2 := np_few i.ok
      simp only [Option.getD_some]
      omega
     ·cases hf
   |none =>
    have hx : max (max n 1) S.chunk < 18446744073709551616 := by have := h.chunk; omega
    obtain ⟨hi, hg⟩ := g.alloc hx ha d
    unfold allocH at hi hg
    revert hi hg
    generalize H.held.allocF (max (max n 1) S.chunk) a d = r
    obtain ⟨G, p, e⟩ := r
    simp only
    intro hi hg
    by_cases ce : e = 0
    ·subst ce
     rw [if_pos rfl]
     refine ⟨hg, ?_⟩
     generalize hG : G.setLock 0 = G' at hi hg
     cases hi with
     |ok c3 c4 gv =>
      obtain ⟨fl', pl', fc', i'⟩ := hg.fine
      have hlp : LiveB G' p (roundP (max (max n 1) S.chunk) a) := (gv.live _ _).2 (.inr ⟨rfl, rfl⟩)
      have hst := i'.start_of hlp
      rw [hst]
      simp only [Option.getD_some]
      refine ⟨?_, ?_, by show max n 1 <= 8388608; omega, Nat.mod_lt _ (by omega), ?_, by simp, h.nilS⟩
      ·intro b hb
       rcases List.mem_append.1 hb with hb | hb
       ·exact (gv.live _ _).2 (.inl (h.live b hb))
       ·rw [List.mem_singleton] at hb; subst hb; exact hlp
      ·rw [List.map_append, List.nodup_append]
       refine ⟨h.nodup, by simp, ?_⟩
       intro x hx y hy
       obtain ⟨b, hb, rfl⟩ := List.mem_map.1 hx
       simp only [List.map_cons, List.map_nil, List.mem_singleton] at hy
       subst hy
       have h1 := gv.new _ _ (h.live b hb)
       have h2 := i.live_range (h.live b hb)
       have h3 := i'.live_range hlp
       omega
      ·have : G'.rsz = H.rsz := by unfold Heap.rsz; rw [gv.order]
       rw [this]; exact h.chunk
    ·rw [if_neg ce]
     refine ⟨hg, ?_⟩
     generalize hG : G.setLock 0 = G' at hi hg
     cases hi with
     |ok => exact (ce rfl).elim
     |_ => exact h
end
end Go.Proofs.YtlgmpheammbacaaGreatDoor
set_option maxRecDepth 1000000
namespace Go.Proofs.YtlgmpheammbacaaGreatDoor
open AM Go
noncomputable section
set_option linter.unusedVariables false
set_option linter.unusedSimpArgs false
attribute [local irreducible] T.get T.set
variable {σ σ' : St} {A : Slot -> Nat} {H : Heap} {B : AI -> Nat} {S : AS}
theorem HC.of {κ : Type} (R : HRep σ A H) (B : κ -> Nat) (c : κ -> Cont) : HC σ A H (fun _ : κ => False) B c := by
 refine (hrep_wd R).sub (fun k => match k with | .inl s => s | .inr _ => .heap) ?_ ?_ ?_ ?_
 ·rintro (k | k) hk
  ·exact hk
  ·exact hk.elim
 ·rintro (k | k) (l | l) hk hl e
  ·exact congrArg _ e
  ·exact hl.elim
  ·exact hk.elim
  ·exact hk.elim
 ·rintro (k | k) hk
  ·rfl
  ·exact hk.elim
 ·rintro (k | k) hk
  ·exact .inl rfl
  ·exact hk.elim
def newA (c : Nat) : AS := { chunk := c, hasC := false, chunks := [], taken := 0, used := 0, init := false, ms := [], hasS := false, made := 0 }
theorem r_arNew (h : HRep σ A H) (ok : H.OK) {c : Nat} (hc : c < 18446744073709551616) :
  Runs G0 [] 17 [.ptr (some (A .heap, 0)), .int .u64 c] σ fun r s => if c = 0 then r = .tuple [.ptr none, .int .i64 1] /\ HRep s A H else if H.rsz < c then r = .tuple [.ptr none, .int .i64 3] /\ HRep s A H else ∃ b, r = .tuple [.ptr (some (b, 0)), .int .i64 0] /\ AR s A H (fun _ => b) (newA c) := by
 refine runs_body g17 rfl ?_
 by_cases c0 : c = 0
 ·have d0 : (c : Int) = 0 := by omega
  simp -implicitDefEqProofs only [go_sem, Nat.reduceEqDiff, d0]
  rw [if_pos c0]
  exact h
 ·have d0 : ¬ (c : Int) = 0 := by omega
  obtain ⟨v, s1, ⟨hv, R1⟩, hr1⟩ := r_asizeW (HC.of (κ := AI) h (fun _ => 0) (fun _ => .map [])) ok
  subst hv
  simp -implicitDefEqProofs only [go_sem, Nat.reduceEqDiff, d0]
  refine runs_ret hr1 ?_
  by_cases c1 : H.rsz < c
  ·have d1 : (H.rsz : Int) < (c : Int) := by omega
   simp -implicitDefEqProofs only [go_sem, Nat.reduceEqDiff, d1]
   rw [if_neg c0, if_pos c1]
   exact wd_hrep R1.left
  ·have d1 : ¬ (H.rsz : Int) < (c : Int) := by omega
   have f1 : fillP [V.ptr none, V.int .u64 0, V.slice none 0 0, V.int .u64 0, V.int .u64 0, V.int .u32 0, V.int .i32 0, V.int .u32 0, V.map none, V.slice none 0 0, V.int .i64 0] [(0, 1, V.ptr (some (A .heap, 0))), (1, 1, V.int .u64 c)] = some [V.ptr (some (A .heap, 0)), V.int .u64 c, V.slice none 0 0, V.int .u64 0, V.int .u64 0, V.int .u32 0, V.int .i32 0, V.int .u32 0, V.map none, V.slice none 0 0, V.int .i64 0] := rfl
   simp -implicitDefEqProofs only [go_sem, Nat.reduceEqDiff, d1, evalParts, f1, vcells_agg, List.length_cons, List.length_nil, Nat.reduceAdd]
   rw [if_neg c0, if_neg c1]
   refine ⟨_, rfl, ?_⟩
   have W := Wd.cells R1 (i0 := (Sum.inr AI.arena : Slot ⊕ AI)) (fun h => h) [V.ptr (some (A .heap, 0)), V.int .u64 c, V.slice none 0 0, V.int .u64 0, V.int .u64 0, V.int .u32 0, V.int .i32 0, V.int .u32 0, V.map none, V.slice none 0 0, V.int .i64 0]
   refine W.sub id ?_ (fun _ _ _ _ e => e) ?_ ?_
   ·rintro (k | k) hk
    ·exact .inl hk
    ·cases k with
     |arena => exact .inr rfl
     |chunks => exact nomatch (show false = true from hk)
     |stand => exact nomatch (show false = true from hk)
     |marks => exact nomatch (show (none : Option (List (V × V))).isSome = true from hk)
   ·rintro (k | k) hk
    ·show _ = updG _ _ _ _; rw [updG_ne (by intro h; cases h)]; rfl
    ·cases k with
     |arena => exact updG_same.symm
     |chunks => exact nomatch (show false = true from hk)
     |stand => exact nomatch (show false = true from hk)
     |marks => exact nomatch (show (none : Option (List (V × V))).isSome = true from hk)
   ·rintro (k | k) hk
    ·left; show _ = updG _ _ _ _; rw [updG_ne (by intro h; cases h)]; rfl
    ·cases k with
     |arena => left; exact updG_same.symm
     |chunks => exact nomatch (show false = true from hk)
     |stand => exact nomatch (show false = true from hk)
     |marks => exact nomatch (show (none : Option (List (V × V))).isSome = true from hk)
end
end Go.Proofs.YtlgmpheammbacaaGreatDoor
set_option maxRecDepth 1000000
namespace Go.Proofs.YtlgmpheammbacaaGreatDoor
open AM Go
noncomputable section
set_option linter.unusedVariables false
set_option linter.unusedSimpArgs false
attribute [local irreducible] T.get T.set
variable {σ σ' : St} {A : Slot -> Nat} {H : Heap} {B : AI -> Nat} {S : AS}
theorem r_Chunks0 {ar z : Nat} {q : Option (Nat × Nat)} (h2 : σ.cell ar 2 = some (.slice q 0 z)) :
  Runs G0 [] 19 [.ptr (some (ar, 0))] σ fun r s => r = .slice none 0 0 /\ s = σ := by
 refine runs_body g19 rfl ?_
 have ha : AM.appendV σ 2 16 (.slice none 0 0) (.slice q 0 z) = some (.slice none 0 0, σ) := rfl
 simp -implicitDefEqProofs only [go_sem, Nat.reduceEqDiff, h2, ha]
theorem r_Chunks1 {ar b n : Nat} {vs : List V} (h2 : σ.cell ar 2 = some (.slice (some (b, 0)) n 2)) (hn : 0 < n) (hx : n <= 5000000000000) (hl : σ.load b 0 (n * 2) = some vs) (hf : vs.all V.flat = true) :
  Runs G0 [] 19 [.ptr (some (ar, 0))] σ fun r s => r = .slice (some (σ.next, 0)) n 2 /\ s = σ.newCells vs := by
 refine runs_body g19 rfl ?_
 have ha : AM.appendV σ 2 16 (.slice none 0 0) (.slice (some (b, 0)) n 2) = some (.slice (some (σ.next, 0)) n 2, σ.newCells vs) := by
  unfold AM.appendV
  simp only [hl]
  rw [if_neg (by rintro (h | ⟨_, h⟩); omega; cases h), if_neg (by omega)]
  unfold AM.appendL
  rw [if_pos ⟨by unfold maxLenBytes; omega, by unfold maxLenBytes; omega, hf⟩]
  simp only [if_true]
 simp -implicitDefEqProofs only [go_sem, Nat.reduceEqDiff, h2, ha]
theorem r_Used (h : AR σ A H B S) : Runs G0 [] 28 [.ptr (some (B .arena, 0))] σ fun r s => r = .int .u64 S.used /\ s = σ := by
 refine runs_body g28 rfl ?_
 have h4 := AR.c4 h
 simp -implicitDefEqProofs only [go_sem, Nat.reduceEqDiff, h4]
def sumB (l : List (Nat × Nat)) : Nat := (l.map (·.2)).sum
theorem sumB_take {l : List (Nat × Nat)} {i : Nat} (h : i < l.length) : sumB (l.take (i + 1)) = sumB (l.take i) + (l.getD i (0, 0)).2 := by
 unfold sumB
 rw [List.take_add_one, List.getElem?_eq_getElem h, List.map_append, List.sum_append]
 simp [List.getD_eq_getElem?_getD, List.getElem?_eq_getElem h]
theorem r_Held (h : AR σ A H B S) (hS : S.OK) : Runs G0 [] 29 [.ptr (some (B .arena, 0))] σ fun r s => r = .int .u64 (sumB S.chunks % 18446744073709551616 : Nat) /\ Grow σ s := by
 refine runs_body g29 rfl ?_
 have h2 := AR.c2 h
 obtain ⟨q, z, hV, hq⟩ : ∃ q z, S.chunksV B = .slice q S.chunks.length z /\ (0 < S.chunks.length -> q = some (B .chunks, 0) /\ z = 2 /\ S.hasC = true) := by
  unfold AS.chunksV
  by_cases c : S.hasC = true
  ·rw [if_pos c]; exact ⟨_, _, rfl, fun _ => ⟨rfl, rfl, c⟩⟩
  ·rw [if_neg c]
   have := hS.nil (by simpa using c)
   rw [this]
   exact ⟨_, _, rfl, fun h => absurd h (by simp)⟩
 rw [hV] at h2
 have hfew := hS.few
 simp -implicitDefEqProofs only [go_sem, Nat.reduceEqDiff, h2]
 refine aw_loop (fun (n : Nat) (fr : AM.Fr) (s : St) => fr.defers = [] /\ fr.tmps.get 9 = some (.slice q S.chunks.length z) /\ fr.tmps.get 10 = some (.int .i64 S.chunks.length) /\ Grow σ s /\ ∃ i : Nat, fr.tmps.get 11 = some (.int .i64 i) /\ i + n = S.chunks.length /\ fr.tmps.get 3 = some (.int .u64 (sumB (S.chunks.take i) % 18446744073709551616 : Nat))) ?_ S.chunks.length ?_
 ·rintro n ⟨tm, ds⟩ s ⟨hd, t9, t10, g, i, t11, hi, t3⟩
  simp only at hd t9 t10 t11 t3
  subst hd
  by_cases c : i < S.chunks.length
  ·obtain ⟨rfl, rfl, hC⟩ := hq (by omega)
   have d1 : (i : Int) < (S.chunks.length : Int) := by omega
   have d2 : (0 : Int) <= (i : Int) /\ (i : Int) < (S.chunks.length : Int) := by omega
   have e9 : IntKind.i64.wrap ((i : Int) + 1) = ((i + 1 : Nat) : Int) := i64_add (a := i) (b := 1) (by omega)
   have hrow := Wd.row h (i := (Sum.inr AI.chunks : Slot ⊕ AI)) hC (n := S.chunks.length * 2) (f := blkV S.chunks) rfl
   have hrow' := Grow.row g h.gw hrow
   have hld := hrow'.load (off := i * 2) (k := 2) (by omega)
   obtain ⟨t, ht⟩ : ∃ t, S.chunks.getD i (0, 0) = t := ⟨_, rfl⟩
   rw [blkV_at ht] at hld
   have hld' : s.load (B .chunks) (i * 2) 2 = some [V.int .u64 t.1, .int .u64 t.2] := hld
   have hst := new_store (σ := s) (z := [.int .u64 0, .int .u64 0]) (vs := [.int .u64 t.1, .int .u64 t.2]) (n := 2) (by simp) rfl
   have L := Lcl.lay s 2 [.int .u64 0, .int .u64 0] [.int .u64 t.1, .int .u64 t.2] rfl
   have l1 := L.cell (i := 1) (by omega)
   rw [show lst [V.int .u64 t.1, .int .u64 t.2] 1 = .int .u64 t.2 from rfl] at l1
   have eu : IntKind.u64.wrap (((sumB (S.chunks.take i) % 18446744073709551616 : Nat) : Int) + (t.2 : Int)) = ((sumB (S.chunks.take (i + 1)) % 18446744073709551616 : Nat) : Int) := by
    rw [sumB_take c, ht, <- Int.natCast_add]; unfold IntKind.wrap; simp [IntKind.bits, IntKind.signed, Int.emod]
   simp -implicitDefEqProofs only [go_sem, Nat.reduceEqDiff, Nat.reduceLeDiff, t9, t10, t11, t3, d1, d2, and_self, decide_true, Int.toNat_natCast, hld', vcells_agg, vcells_int, List.length_cons, List.length_nil, Nat.reduceAdd, hst, l1, eu, e9]
   exact ⟨n - 1, by omega, g.trans (Grow.lay _ _ _ _), i + 1, rfl, by omega, rfl⟩
  ·have d1 : ¬ ((i : Int) < (S.chunks.length : Int)) := by omega
   simp -implicitDefEqProofs only [go_sem, Nat.reduceEqDiff, t9, t10, t11, t3, d1, decide_false]
   rw [List.take_of_length_le (by omega)]
   exact ⟨rfl, g⟩
 ·simp -implicitDefEqProofs only [go_sem, Nat.reduceEqDiff]
  exact ⟨Grow.refl _, 0, rfl, by omega, rfl⟩
end
end Go.Proofs.YtlgmpheammbacaaGreatDoor
set_option maxRecDepth 1000000
namespace Go.Proofs.YtlgmpheammbacaaGreatDoor
open AM Go
noncomputable section
set_option linter.unusedVariables false
set_option linter.unusedSimpArgs false
attribute [local irreducible] T.get T.set
variable {σ σ' : St} {A : Slot -> Nat} {H : Heap} {B : AI -> Nat} {S : AS}
end
end Go.Proofs.YtlgmpheammbacaaGreatDoor
set_option maxRecDepth 1000000
namespace Go.Proofs.YtlgmpheammbacaaGreatDoor
open AM Go
noncomputable section
set_option linter.unusedVariables false
set_option linter.unusedSimpArgs false
attribute [local irreducible] T.get T.set
variable {σ σ' : St} {A : Slot -> Nat} {H : Heap} {B : AI -> Nat} {S : AS}
end
end Go.Proofs.YtlgmpheammbacaaGreatDoor
set_option maxRecDepth 1000000
namespace Go.Proofs.YtlgmpheammbacaaGreatDoor
open AM Go
noncomputable section
set_option linter.unusedVariables false
set_option linter.unusedSimpArgs false
attribute [local irreducible] T.get T.set
variable {σ σ' : St} {A : Slot -> Nat} {H : Heap} {B : AI -> Nat} {S : AS}
variable {l : List V} {b n : Nat} {f : Nat -> V}
end
end Go.Proofs.YtlgmpheammbacaaGreatDoor
set_option maxRecDepth 1000000
namespace Go.Proofs.YtlgmpheammbacaaGreatDoor
open AM Go
noncomputable section
set_option linter.unusedVariables false
set_option linter.unusedSimpArgs false
attribute [local irreducible] T.get T.set
variable {σ σ' : St} {A : Slot -> Nat} {H : Heap} {B : AI -> Nat} {S : AS}
section
variable {l : List V} {b n b' n' : Nat} {f f' : Nat -> V}
end
end
end Go.Proofs.YtlgmpheammbacaaGreatDoor
set_option maxRecDepth 1000000
namespace Go.Proofs.YtlgmpheammbacaaGreatDoor
open AM Go
noncomputable section
set_option linter.unusedVariables false
set_option linter.unusedSimpArgs false
attribute [local irreducible] T.get T.set
variable {σ σ' : St} {A : Slot -> Nat} {H H' : Heap} {B : AI -> Nat} {S S' : AS}
abbrev ARx {κ : Type} (σ : St) (A : Slot -> Nat) (H : Heap) (B : AI -> Nat) (S : AS) (hasK : κ -> Prop) (AK : κ -> Nat) (cK : κ -> Cont) : Prop :=
 Wd σ (Sum.elim (Sum.elim H.has S.has) hasK) (Sum.elim (Sum.elim A B) AK) (Sum.elim (Sum.elim (heapC H A) (S.cont (A .heap) B)) cK)
section
variable {κ : Type} {hasK : κ -> Prop} {AK : κ -> Nat} {cK : κ -> Cont}
theorem ARx.call {g : FuncId} {xs : List V} {P : V -> (Slot -> Nat) -> (AI -> Nat) -> Prop} (h : ARx σ A H B S hasK AK cK)
  (spec : ∀ σ, AR σ A H B S -> Runs G0 [] g xs σ fun v σ' => ∃ A' B', AR σ' A' H' B' S' /\ P v A' B') :
  Runs G0 [] g xs σ fun v σ' => ∃ A' B', ARx σ' A' H' B' S' hasK AK cK /\ P v A' B' := by
 refine (Wd.call (Γ := G0) (Γ' := G0) (M := []) (P := fun v has' A' c' => ∃ a b, has' = Sum.elim H'.has S'.has /\ A' = Sum.elim a b /\ c' = Sum.elim (heapC H' a) (S'.cont (a .heap) b) /\ P v a b) (fun _ _ h => h) (fun _ h => nomatch h) h fun s w => (spec s w).mono ?_).mono ?_
 ·rintro v s' ⟨A', B', R, hp⟩
  exact ⟨_, _, _, R, A', B', rfl, rfl, rfl, hp⟩
 ·rintro v s' ⟨has', A', c', w, a, b, rfl, rfl, rfl, hp⟩
  exact ⟨a, b, w, hp⟩
end
end
end Go.Proofs.YtlgmpheammbacaaGreatDoor
set_option maxRecDepth 1000000
namespace Go.Proofs.YtlgmpheammbacaaGreatDoor
open AM Go
noncomputable section
set_option linter.unusedVariables false
set_option linter.unusedSimpArgs false
attribute [local irreducible] T.get T.set
variable {σ σ' : St} {A : Slot -> Nat} {H H' : Heap} {B : AI -> Nat} {S S' : AS}
end
end Go.Proofs.YtlgmpheammbacaaGreatDoor
set_option maxRecDepth 1000000
namespace Go.Proofs.YtlgmpheammbacaaGreatDoor
open AM Go
noncomputable section
set_option linter.unusedVariables false
set_option linter.unusedSimpArgs false
attribute [local irreducible] T.get T.set
variable {σ σ' : St} {A : Slot -> Nat} {H : Heap} {fl pl fc : Nat -> List Nat}
def listV (l : List (Nat × Nat)) (b : Nat) : V := if l = [] then .slice none 0 0 else .slice (some (b, 0)) l.length 2
end
end Go.Proofs.YtlgmpheammbacaaGreatDoor
set_option maxRecDepth 1000000
namespace Go.Proofs.YtlgmpheammbacaaGreatDoor
open AM Go
noncomputable section
set_option linter.unusedVariables false
set_option linter.unusedSimpArgs false
attribute [local irreducible] T.get T.set
variable {σ σ' : St} {A : Slot -> Nat} {H : Heap} {fl pl fc : Nat -> List Nat}
end
end Go.Proofs.YtlgmpheammbacaaGreatDoor
set_option maxRecDepth 1000000
namespace Go.Proofs.YtlgmpheammbacaaGreatDoor
open AM Go
noncomputable section
set_option linter.unusedVariables false
set_option linter.unusedSimpArgs false
attribute [local irreducible] T.get T.set
variable {σ σ' : St} {A : Slot -> Nat} {H H' : Heap} {fl pl fc : Nat -> List Nat}
section
variable {κ : Type} {hasK : κ -> Prop} {BK : κ -> Nat} {cK : κ -> Cont} {l : List (Nat × Nat)} {b : Nat}
end
section
variable {l : List (Nat × Nat)} {bl r0 bs : Nat} {zf : Nat -> V} {lv : List V}
end
end
end Go.Proofs.YtlgmpheammbacaaGreatDoor
set_option maxRecDepth 1000000
namespace Go.Proofs.YtlgmpheammbacaaGreatDoor
open AM Go
noncomputable section
set_option linter.unusedVariables false
variable {H H' : Heap} {fl pl fc : Nat -> List Nat}
end
end Go.Proofs.YtlgmpheammbacaaGreatDoor
set_option maxRecDepth 1000000
namespace Go.Proofs.YtlgmpheammbacaaGreatDoor
open AM Go
noncomputable section
set_option linter.unusedVariables false
variable {H H' : Heap} {fl pl fc : Nat -> List Nat}
end
end Go.Proofs.YtlgmpheammbacaaGreatDoor
set_option maxRecDepth 1000000
namespace Go.Proofs.YtlgmpheammbacaaGreatDoor
open AM Go
noncomputable section
set_option linter.unusedVariables false
variable {H H' : Heap} {fl pl fc : Nat -> List Nat}
end
end Go.Proofs.YtlgmpheammbacaaGreatDoor
set_option maxRecDepth 1000000
namespace Go.Proofs.YtlgmpheammbacaaGreatDoor
open AM Go
noncomputable section
set_option linter.unusedVariables false
variable {H H' : Heap} {S : AS} {fl pl fc : Nat -> List Nat}
end
end Go.Proofs.YtlgmpheammbacaaGreatDoor
set_option maxRecDepth 1000000
namespace Go.Proofs.YtlgmpheammbacaaGreatDoor
open AM Go
noncomputable section
set_option linter.unusedVariables false
set_option linter.unusedSimpArgs false
attribute [local irreducible] T.get T.set
variable {σ : St} {A : Slot -> Nat} {H H' : Heap} {fl pl fc : Nat -> List Nat}
end
end Go.Proofs.YtlgmpheammbacaaGreatDoor
set_option maxRecDepth 1000000
namespace Go.Proofs.YtlgmpheammbacaaGreatDoor
open AM Go
noncomputable section
set_option linter.unusedVariables false
set_option linter.unusedSimpArgs false
attribute [local irreducible] T.get T.set
variable {σ : St} {A : Slot -> Nat} {H H' : Heap} {fl pl fc : Nat -> List Nat}
end
end Go.Proofs.YtlgmpheammbacaaGreatDoor
set_option maxRecDepth 1000000
namespace Go.Proofs.YtlgmpheammbacaaGreatDoor
open AM Go
noncomputable section
set_option linter.unusedVariables false
set_option linter.unusedSimpArgs false
attribute [local irreducible] T.get T.set
variable {σ : St} {A : Slot -> Nat} {H H' : Heap} {fl pl fc : Nat -> List Nat}
end
end Go.Proofs.YtlgmpheammbacaaGreatDoor
set_option maxRecDepth 1000000
namespace Go.Proofs.YtlgmpheammbacaaGreatDoor
open AM Go
noncomputable section
set_option linter.unusedVariables false
variable {H H' : Heap} {S : AS}
end
end Go.Proofs.YtlgmpheammbacaaGreatDoor
set_option maxRecDepth 1000000
namespace Go.Proofs.YtlgmpheammbacaaGreatDoor
open AM Go
noncomputable section
set_option linter.unusedVariables false
variable {H H' : Heap} {S : AS}
end
end Go.Proofs.YtlgmpheammbacaaGreatDoor
set_option maxRecDepth 1000000
namespace Go.Proofs.YtlgmpheammbacaaGreatDoor
open AM Go
noncomputable section
set_option linter.unusedVariables false
set_option linter.unusedSimpArgs false
attribute [local irreducible] T.get T.set
variable {σ : St}
end
end Go.Proofs.YtlgmpheammbacaaGreatDoor
set_option maxRecDepth 1000000
namespace Go.Proofs.YtlgmpheammbacaaGreatDoor
open AM Go
noncomputable section
set_option linter.unusedVariables false
set_option linter.unusedSimpArgs false
attribute [local irreducible] T.get T.set
variable {σ σ' : St}
theorem eqP_none (p : Nat × Nat) : eqV .ptr (.ptr (some p)) (.ptr none) = some false := rfl
theorem Wd.nought {ι : Type} (w : GW σ) (hw : Wid σ) (A : ι -> Nat) (c : ι -> Cont) : Wd σ (fun _ : ι => False) A c where
 gw := w
 wid := hw
 not_wid h := h.elim
 inj _ _ h := h.elim
 hold _ h := h.elim
 cut _ _ _ h := h.elim
section
variable {ι κ : Type} {hasK : κ -> Prop} {AK : κ -> Nat} {cK : κ -> Cont}
theorem Wd.pad (h : Wd σ hasK AK cK) (A : ι -> Nat) (c : ι -> Cont) : Wd σ (Sum.elim (fun _ : ι => False) hasK) (Sum.elim A AK) (Sum.elim c cK) where
 gw := h.gw
 wid := h.wid
 not_wid {i} hi := by
  rcases i with i | i
  ·exact hi.elim
  ·exact h.not_wid hi
 inj i j hi hj e := by
  rcases i with i | i
  ·exact hi.elim
  ·rcases j with j | j
   ·exact hj.elim
   ·exact congrArg _ (h.inj i j hi hj e)
 hold i hi := by
  rcases i with i | i
  ·exact hi.elim
  ·exact h.hold i hi
 cut i j o hi hj hne ho hg := by
  rcases i with i | i
  ·exact hi.elim
  ·rcases j with j | j
   ·exact hj.elim
   ·exact h.cut i j o hi hj (fun e => hne (congrArg _ e)) ho hg
theorem Wd.callE {g : FuncId} {xs : List V} {P : V -> (ι -> Prop) -> (ι -> Nat) -> (ι -> Cont) -> Prop} (h : Wd σ hasK AK cK)
  (spec : ∀ σ, GW σ -> Wid σ -> Runs G0 [] g xs σ fun v σ' => ∃ has' A' c', Wd σ' has' A' c' /\ P v has' A' c') :
  Runs G0 [] g xs σ fun v σ' => ∃ has' A' c', Wd σ' (Sum.elim has' hasK) (Sum.elim A' AK) (Sum.elim c' cK) /\ P v has' A' c' :=
 Wd.call (Γ := G0) (Γ' := G0) (M := []) (fun _ _ h => h) (fun _ h => nomatch h) (h.pad (fun _ => 0) fun _ => .map []) fun s w => spec s w.gw w.wid
theorem Wd.call0 {g : FuncId} {xs : List V} {P : V -> Prop} (h : Wd σ hasK AK cK) (spec : ∀ σ, GW σ -> Wid σ -> Runs G0 [] g xs σ fun v σ' => P v /\ Wid σ') :
  Runs G0 [] g xs σ fun v σ' => P v /\ Wd σ' hasK AK cK := by
 refine (Wd.callE (ι := Empty) (P := fun v _ _ _ => P v) h fun s w hw => ((spec s w hw).gw w).mono ?_).mono ?_
 ·rintro v s' ⟨⟨hp, hw'⟩, w'⟩
  exact ⟨_, (fun _ => 0), (fun _ => .map []), Wd.nought w' hw' _ _, hp⟩
 ·rintro v s' ⟨has', A', c', W, hp⟩
  exact ⟨hp, W.right⟩
theorem Wd.newHeap (h : Wd σ hasK AK cK) {b l o : Int} (hb0 : 0 <= b) (hb : b < 18446744073709551616) :
  Runs G0 [] 16 [cfg b l o] σ fun v s => (¬ MayC b l o -> v = .tuple [.ptr none, .int .i64 1] /\ Wd s hasK AK cK) ∧
   (MayC b l o -> ∃ A, v = .tuple [.ptr (some (A .heap, 0)), .int .i64 0] /\ HC s A (heap0 b.toNat l.toNat o.toNat) hasK AK cK) := by
 by_cases hm : MayC b l o
 ·refine (Wd.callE (ι := Slot) (P := fun v has' A' c' => v = .tuple [.ptr (some (A' .heap, 0)), .int .i64 0] /\ has' = (heap0 b.toNat l.toNat o.toNat).has /\ c' = heapC (heap0 b.toNat l.toNat o.toNat) A') h fun s w hw => ((r_mallocNew0 (l := l) (o := o) hb0 hb w hw).mono ?_)).mono ?_
  ·rintro v s' ⟨_, m2⟩
   obtain ⟨A, hv, R⟩ := m2 hm
   exact ⟨_, A, _, hrep_wd R, hv, rfl, rfl⟩
  ·rintro v s' ⟨has', A', c', W, hv, rfl, rfl⟩
   exact ⟨fun h => (h hm).elim, fun _ => ⟨A', hv, W⟩⟩
 ·refine (Wd.call0 (P := fun v => v = .tuple [.ptr none, .int .i64 1]) h fun s w hw => ((r_mallocNew0 (l := l) (o := o) hb0 hb w hw).mono ?_)).mono ?_
  ·rintro v s' ⟨m1, _⟩
   obtain ⟨hv, g⟩ := m1 hm
   exact ⟨hv, hw.of_get (g.old _ (hw.lt w))⟩
  ·rintro v s' ⟨hv, W⟩
   exact ⟨fun _ => ⟨hv, W⟩, fun h => (hm h).elim⟩
end
section
variable {κ : Type} {hasK : κ -> Prop} {AK : κ -> Nat} {cK : κ -> Cont} {A : Slot -> Nat} {H : Heap} {B : AI -> Nat} {S : AS}
theorem HC.newArena (h : HC σ A H hasK AK cK) (ok : H.OK) {c : Nat} (hc : c < 18446744073709551616) :
  Runs G0 [] 17 [.ptr (some (A .heap, 0)), .int .u64 c] σ fun r s => if c = 0 then r = .tuple [.ptr none, .int .i64 1] /\ HC s A H hasK AK cK else if H.rsz < c then r = .tuple [.ptr none, .int .i64 3] /\ HC s A H hasK AK cK else ∃ b, r = .tuple [.ptr (some (b, 0)), .int .i64 0] /\ ARx s A H (fun _ => b) (newA c) hasK AK cK := by
 by_cases c0 : c = 0
 ·simp only [if_pos c0]
  refine (HC.call (H' := H) (P := fun v A' => v = .tuple [.ptr none, .int .i64 1] /\ A' = A) (Γ := G0) (Γ' := G0) (M := []) (fun _ _ h => h) (fun _ h => nomatch h) h fun s R => (r_arNew R ok hc).mono ?_).mono ?_
  ·intro v s' hh
   simp only [if_pos c0] at hh
   exact ⟨A, hh.2, hh.1, rfl⟩
  ·rintro v s' ⟨A', W, hv, rfl⟩
   exact ⟨hv, W⟩
 ·simp only [if_neg c0]
  by_cases c1 : H.rsz < c
  ·simp only [if_pos c1]
   refine (HC.call (H' := H) (P := fun v A' => v = .tuple [.ptr none, .int .i64 3] /\ A' = A) (Γ := G0) (Γ' := G0) (M := []) (fun _ _ h => h) (fun _ h => nomatch h) h fun s R => (r_arNew R ok hc).mono ?_).mono ?_
   ·intro v s' hh
    simp only [if_neg c0, if_pos c1] at hh
    exact ⟨A, hh.2, hh.1, rfl⟩
   ·rintro v s' ⟨A', W, hv, rfl⟩
    exact ⟨hv, W⟩
  ·simp only [if_neg c1]
   have h1 : Wd σ (Sum.elim (Sum.elim H.has fun _ : AI => False) hasK) (Sum.elim (Sum.elim A fun _ => 0) AK) (Sum.elim (Sum.elim (heapC H A) fun _ => .map []) cK) := by
    refine Wd.sub h (fun k => match k with | .inl (.inl s) => .inl s | .inl (.inr u) => .inl .heap | .inr k => .inr k) ?_ ?_ ?_ ?_
    ·rintro ((k | k) | k) hk
     ·exact hk
     ·exact hk.elim
     ·exact hk
    ·rintro ((k | k) | k) ((j | j) | j) hk hj e <;> simp_all
    ·rintro ((k | k) | k) hk
     ·rfl
     ·exact hk.elim
     ·rfl
    ·rintro ((k | k) | k) hk
     ·exact .inl rfl
     ·exact hk.elim
     ·exact .inl rfl
   refine (Wd.call (Γ := G0) (Γ' := G0) (M := []) (P := fun v has' A' c' => ∃ b, v = .tuple [.ptr (some (b, 0)), .int .i64 0] /\ has' = Sum.elim H.has (newA c).has /\ A' = Sum.elim A (fun _ => b) /\ c' = Sum.elim (heapC H A) ((newA c).cont (A .heap) fun _ => b)) (fun _ _ h => h) (fun _ h => nomatch h) h1 fun s w => (r_arNew (wd_hrep w.left) ok hc).mono ?_).mono ?_
   ·intro v s' hh
    simp only [if_neg c0, if_neg c1] at hh
    obtain ⟨b, hv, R⟩ := hh
    exact ⟨_, _, _, R, b, hv, rfl, rfl, rfl⟩
   ·rintro v s' ⟨has', A', c', W, b, hv, rfl, rfl, rfl⟩
    exact ⟨b, hv, W⟩
end
theorem blkV_flat (l : List (Nat × Nat)) (n : Nat) : ((List.range n).map fun j => blkV l (0 + j)).all V.flat = true := by
 rw [List.all_eq_true]
 intro v hv
 obtain ⟨j, _, rfl⟩ := List.mem_map.1 hv
 rfl
theorem r_ChunksW {ι : Type} [DecidableEq ι] {has : ι -> Prop} {A : ι -> Nat} {c : ι -> Cont} {B : AI -> Nat} {S : AS} (W : Wd σ has A c) (hS : S.OK) (h2 : σ.cell (B .arena) 2 = some (S.chunksV B))
  (hr : S.hasC = true -> Row σ (B .chunks) (S.chunks.length * 2) (blkV S.chunks)) {i0 : ι} (hs : ¬ has i0) :
  Runs G0 [] 19 [.ptr (some (B .arena, 0))] σ fun r s => ∃ b, r = listV S.chunks b /\ Grow σ s /\ σ.next <= b /\ (S.chunks ≠ [] -> Lcl s b (S.chunks.length * 2) (blkV S.chunks)) ∧
   Wd s (fun i => has i \/ (i = i0 /\ S.chunks ≠ [])) (updG A i0 b) (updG c i0 (.row (S.chunks.length * 2) (blkV S.chunks))) := by
 by_cases hc : S.chunks = []
 ·obtain ⟨q, z, hV⟩ : ∃ q z, S.chunksV B = .slice q 0 z := by
   unfold AS.chunksV
   by_cases c : S.hasC = true
   ·rw [if_pos c, hc]; exact ⟨_, _, rfl⟩
   ·rw [if_neg c]; exact ⟨_, _, rfl⟩
  rw [hV] at h2
  refine (r_Chunks0 h2).mono ?_
  rintro r s ⟨rfl, rfl⟩
  refine ⟨s.next, by unfold listV; rw [if_pos hc], Grow.refl _, Nat.le_refl _, fun h => (h hc).elim, ?_⟩
  have hne : ∀ i, has i -> i ≠ i0 := fun i h e => hs (e ▸ h)
  refine W.sub id ?_ (fun _ _ _ _ e => e) ?_ ?_
  ·rintro k (hk | ⟨_, hk⟩)
   ·exact hk
   ·exact (hk hc).elim
  ·rintro k (hk | ⟨_, hk⟩)
   ·rw [updG_ne (hne k hk)]; rfl
   ·exact (hk hc).elim
  ·rintro k (hk | ⟨_, hk⟩)
   ·rw [updG_ne (hne k hk)]; exact .inl rfl
   ·exact (hk hc).elim
 ·have hlen : 0 < S.chunks.length := List.length_pos_iff.2 hc
  have hC : S.hasC = true := by
   cases h : S.hasC with
   |true => rfl
   |false => exact (hc (hS.nil h)).elim
  have hV : S.chunksV B = .slice (some (B .chunks, 0)) S.chunks.length 2 := by unfold AS.chunksV; rw [if_pos hC]
  rw [hV] at h2
  have hld := (hr hC).load (off := 0) (k := S.chunks.length * 2) (by omega)
  refine (r_Chunks1 h2 hlen hS.few hld (blkV_flat _ _)).mono ?_
  rintro r s ⟨rfl, rfl⟩
  have hl : ((List.range (S.chunks.length * 2)).map fun j => blkV S.chunks (0 + j)).length = S.chunks.length * 2 := by simp
  have hat : ∀ i, i < S.chunks.length * 2 -> lst ((List.range (S.chunks.length * 2)).map fun j => blkV S.chunks (0 + j)) i = blkV S.chunks i := by
   intro i hi
   unfold lst
   rw [List.getD_eq_getElem?_getD, List.getElem?_map, List.getElem?_range hi]
   simp
  refine ⟨σ.next, by unfold listV; rw [if_neg hc], Grow.new _ _, Nat.le_refl _, fun _ => ?_, ?_⟩
  ·have L := Lcl.of_cells σ ((List.range (S.chunks.length * 2)).map fun j => blkV S.chunks (0 + j))
   rw [hl] at L
   exact L.congr (Nat.le_refl _) hat
  ·have W1 := W.cells hs ((List.range (S.chunks.length * 2)).map fun j => blkV S.chunks (0 + j))
   rw [hl] at W1
   refine W1.sub id ?_ (fun _ _ _ _ e => e) (fun _ _ => rfl) ?_
   ·rintro k (hk | ⟨hk, _⟩)
    ·exact .inl hk
    ·exact .inr hk
   ·intro k hk
    by_cases ck : k = i0
    ·subst ck
     right
     exact ⟨_, _, _, _, updG_same, updG_same, Nat.le_refl _, hat⟩
    ·left; rw [updG_ne ck]; exact (updG_ne ck).symm
theorem Wd.put {ι : Type} {has : ι -> Prop} {A : ι -> Nat} {c : ι -> Cont} (h : Wd σ has A c) {id : Nat} (k : Put id σ σ') (w : GW σ') (hid : id ≠ widthsId) (hne : ∀ i, has i -> A i ≠ id) : Wd σ' has A c where
 gw := w
 wid := h.wid.of_get (k.old _ (Ne.symm hid))
 not_wid := h.not_wid
 inj := h.inj
 hold i hi := (h.hold i hi).keep (k.old _ (hne i hi))
 cut i j o hi hj hd ho hg := by
  rw [k.old _ (hne i hi)] at ho
  have := h.cut i j o hi hj hd ho hg
  simpa only [St.row, k.grps] using this
end
end Go.Proofs.YtlgmpheammbacaaGreatDoor
set_option maxRecDepth 1000000
namespace Go.Proofs.YtlgmpheammbacaaGreatDoor
open AM Go
noncomputable section
set_option linter.unusedVariables false
set_option linter.unusedSimpArgs false
attribute [local irreducible] T.get T.set
variable {σ σ' : St}
theorem newA_ok {H : Heap} {c : Nat} (h : c <= H.rsz) : ArOk H (newA c) := ⟨(fun b hb => nomatch (show b ∈ [] from hb)), List.nodup_nil, Nat.zero_le _, Nat.zero_lt_succ _, h, (fun _ => rfl), (fun _ => rfl)⟩
theorem good_heap0 {b l o : Nat} (h : MayC b l o) : Good (heap0 b l o) := ⟨⟨_, _, _, inv_heap0 h⟩, (fun x hx => absurd hx (by rw [show (heap0 b l o).np = 0 * 2 ^ o from rfl, Nat.zero_mul]; exact Nat.not_lt_zero x)), rfl⟩
theorem may_awake : MayC ((65536 : Nat) : Int) ((2 : Nat) : Int) ((1 : Nat) : Int) := by decide
theorem aw_tell : (allocA (heap0 65536 2 1) (newA 100) 1 1 false).2.2 = (65536, 0) := by kernel_rfl
theorem aw_chunks : (allocA (heap0 65536 2 1) (newA 100) 1 1 false).2.1.chunks = [(65536, 128)] := by kernel_rfl
theorem aw_used : (allocA (heap0 65536 2 1) (newA 100) 1 1 false).2.1.used = 1 := by kernel_rfl
theorem aw_init : (allocA (heap0 65536 2 1) (newA 100) 1 1 false).2.1.init = false := by kernel_rfl
theorem r_awakeA (w : GW σ) (hw : Wid σ) : Runs G0 [] 15 [] σ fun v s => v = .bool true /\ Wid s := by
 refine runs_body g15 rfl ?_
 obtain ⟨v, s1, ⟨_, m⟩, hr1⟩ := r_mallocNew0 (b := ((65536 : Nat) : Int)) (l := ((2 : Nat) : Int)) (o := ((1 : Nat) : Int)) (by omega) (by omega) w hw
 obtain ⟨A, rfl, R1⟩ := m may_awake
 have R1' : HRep s1 A (heap0 65536 2 1) := R1
 have g0 := good_heap0 may_awake
 have ok0 := ok_heap0 may_awake
 obtain ⟨v, s2, hA, hr2⟩ := r_arNew R1' ok0 (c := 100) (by omega)
 rw [if_neg (by omega), if_neg (by decide)] at hA
 obtain ⟨b, rfl, R2⟩ := hA
 have ao : ArOk (heap0 65536 2 1) (newA 100) := newA_ok (by decide)
 obtain ⟨v, s3, ⟨A3, B3, R3, hA3, hB3, hv3⟩, hr3⟩ := r_AllocT R2 g0 (ao.ok g0) (n := 1) (a := 1) (by omega) (by omega) false
 obtain ⟨g1, ao1⟩ := ao.alloc g0 (n := 1) (a := 1) (by omega) (by omega) false
 have c1 := aw_chunks
 have u1 := aw_used
 have i1 := aw_init
 have t1 := aw_tell
 obtain ⟨X, hX⟩ : ∃ X, X = allocA (heap0 65536 2 1) (newA 100) 1 1 false := ⟨_, rfl⟩
 rw [<- hX] at R3 hv3 g1 ao1 c1 u1 i1 t1
 obtain ⟨H1, S1, p1, e1⟩ := X
 simp only at R3 hv3 g1 ao1 c1 u1 i1 t1
 simp only [Prod.mk.injEq] at t1
 obtain ⟨rfl, rfl⟩ := t1
 subst hv3
 have hB : b = B3 .arena := hB3.symm
 have hS := ao1.ok g1
 obtain ⟨v, s4, ⟨lb, hv4, gr4, _, L4, W4⟩, hr4⟩ := r_ChunksW (i0 := (.inr .marks : Slot ⊕ AI)) R3 hS (AR.c2 R3) (fun h => Wd.row R3 (i := (Sum.inr AI.chunks : Slot ⊕ AI)) h rfl) (by
  show ¬ (S1.marks.isSome = true)
  unfold AS.marks; rw [i1]; simp)
 have hne : S1.chunks ≠ [] := by rw [c1]; simp
 have hv4' : v = .slice (some (lb, 0)) 1 2 := by rw [hv4]; unfold listV; rw [if_neg hne, c1]; rfl
 have R4 : AR s4 A3 H1 B3 S1 := Wd.grow R3 gr4 W4.gw
 have k0 := (L4 hne).cell (i := 0) (by rw [c1]; decide)
 have k1 := (L4 hne).cell (i := 1) (by rw [c1]; decide)
 rw [c1] at k0 k1
 rw [show blkV [(65536, 128)] 0 = .int .u64 65536 from rfl] at k0
 rw [show blkV [(65536, 128)] 1 = .int .u64 128 from rfl] at k1
 obtain ⟨v5, s5, ⟨hv5, hs5⟩, hr5⟩ := r_Used R4
 rw [hs5] at hr5
 rw [u1] at hv5
 obtain ⟨v6, s6, ⟨hv6, gr6⟩, hr6⟩ := r_Held R4 hS
 have hv6' : v6 = .int .u64 128 := by rw [hv6, c1]; rfl
 subst hv4' hv5 hv6'
 have hr1' : Ret G0 [] 16 [.agg [.int .u64 65536, .int .i64 2, .int .i64 1]] σ _ s1 := hr1
 rw [<- hB] at hr4 hr5 hr6
 have hr2' : Ret G0 [] 17 [.ptr (some (A .heap, 0)), .int .u64 100] s1 _ s2 := hr2
 have hr3' : Ret G0 [] 18 [.ptr (some (b, 0)), .int .u64 1, .int .u64 1, .bool false] s2 (.tuple [.int .u64 65536, .int .i64 0]) s3 := hr3
 have hd : ((1 : Nat) : Int) = 1 := rfl
 have hd0 : (0 : Int) <= 0 /\ (0 : Int) < 1 := by decide
 have ht0 : (0 : Int).toNat = 0 := rfl
 have f1 : fillP [V.int .u64 0, .int .i64 0, .int .i64 0] [(0, 1, V.int .u64 65536), (1, 1, V.int .i64 2), (2, 1, V.int .i64 1)] = some [V.int .u64 65536, .int .i64 2, .int .i64 1] := rfl
 simp -implicitDefEqProofs only [go_sem, ne_eq, not_true_eq_false, not_false_eq_true, decide_false, decide_true, eqP_none, Nat.reduceEqDiff, evalParts, f1]
 refine runs_ret hr1' ?_
 simp -implicitDefEqProofs only [go_sem, ne_eq, not_true_eq_false, not_false_eq_true, decide_false, decide_true, eqP_none, Nat.reduceEqDiff]
 refine runs_ret hr2' ?_
 simp -implicitDefEqProofs only [go_sem, ne_eq, not_true_eq_false, not_false_eq_true, decide_false, decide_true, eqP_none, Nat.reduceEqDiff]
 refine runs_ret hr3' ?_
 simp -implicitDefEqProofs only [go_sem, ne_eq, not_true_eq_false, not_false_eq_true, decide_false, decide_true, eqP_none, Nat.reduceEqDiff]
 refine runs_ret hr4 ?_
 simp -implicitDefEqProofs only [go_sem, ne_eq, not_true_eq_false, not_false_eq_true, decide_false, decide_true, eqP_none, Nat.reduceEqDiff, k0, k1, hd, hd0, ht0, and_self]
 refine runs_ret hr5 ?_
 simp -implicitDefEqProofs only [go_sem, hd, ne_eq, not_true_eq_false, not_false_eq_true, decide_false, decide_true, eqP_none, Nat.reduceEqDiff]
 refine runs_ret hr6 ?_
 simp -implicitDefEqProofs only [go_sem, hd, ne_eq, not_true_eq_false, not_false_eq_true, decide_false, decide_true, eqP_none, Nat.reduceEqDiff]
 exact (R4.wid).of_get (gr6.old _ (R4.wid.lt R4.gw))
end
end Go.Proofs.YtlgmpheammbacaaGreatDoor
set_option maxRecDepth 1000000
namespace Go.Proofs.YtlgmpheammbacaaGreatDoor
open AM Go
noncomputable section
set_option linter.unusedVariables false
set_option linter.unusedSimpArgs false
attribute [local irreducible] T.get T.set
variable {σ σ' : St}
theorem allocA_base {H : Heap} {S : AS} (g : Good H) (h : ArOk H S) {n a : Nat} (hn : n < 18446744073709551616) (ha : a < 18446744073709551616) (d : Bool) : (allocA H S n a d).1.base = H.base := by
 obtain ⟨fl, pl, fc, i⟩ := g.fine
 have hz := rsz_le i.ok
 unfold allocA
 by_cases c : isPow a = false
 ·rw [if_pos c]
 ·rw [if_neg c]
  by_cases c2 : H.rsz < max n 1 \/ H.rsz < a
  ·rw [if_pos c2]
  ·rw [if_neg c2]
   cases hf : S.fit (max n 1) a with
   |some p => rfl
   |none =>
    have hx : max (max n 1) S.chunk < 18446744073709551616 := by have := h.chunk; omega
    obtain ⟨hi, _⟩ := g.alloc hx ha d
    unfold allocH at hi
    revert hi
    generalize H.held.allocF (max (max n 1) S.chunk) a d = r
    obtain ⟨G, p, e⟩ := r
    simp only
    intro hi
    generalize hG : G.setLock 0 = G' at hi
    by_cases ce : e = 0
    ·rw [if_pos ce]
     subst ce
     cases hi with
     |ok c3 c4 gv => exact gv.base
    ·rw [if_neg ce]
     cases hi with
     |ok => exact (ce rfl).elim
     |_ => rfl
inductive KI where
 |sizes | l | m | n
 deriving DecidableEq
structure Behind (s : St) (lb gb i : Nat) : Prop where
 zero : i = 0 -> gb = lb /\ ∃ m z t, s.objs.get lb = some (.cells false 0 m z t)
 more : 0 < i -> ∃ m z t G, s.objs.get gb = some (.cells false G m z t) /\ G ≠ 0 /\ lb ∈ s.row G /\ (s.row G).length <= i + 1
theorem Behind.grow {lb gb i : Nat} (h : Behind σ lb gb i) (w : GW σ) (g : Grow σ σ') : Behind σ' lb gb i where
 zero hi := by
  obtain ⟨e, m, z, t, ho⟩ := h.zero hi
  exact ⟨e, m, z, t, by rw [g.old _ (w.is_lt ho)]; exact ho⟩
 more hi := by
  obtain ⟨m, z, t, G, ho, h1, h2, h3⟩ := h.more hi
  have e : σ'.row G = σ.row G := by simp only [St.row, g.grps]
  exact ⟨m, z, t, G, by rw [g.old _ (w.is_lt ho)]; exact ho, h1, by rw [e]; exact h2, by rw [e]; exact h3⟩
theorem Behind.append {lb gb i : Nat} (h : Behind σ lb gb i) (w : GW σ) (hi : i <= 6) {esz bytes k xl : Nat} {vs : List V} {v : V} (hs : appendL σ esz bytes k vs (some (gb, 0)) xl = some (v, σ')) {n : Nat} {f : Nat -> V} (hr : Row σ lb n f) (hn : n <= xl * esz) :
  v = .slice (some (σ.next, 0)) (xl + k) esz /\ Behind σ' lb σ.next (i + 1) /\ Row σ' lb n f := by
 obtain ⟨g, m, z, t, old, hg, hold, hv, hnx, hgr, hat⟩ := appendL_at hs
 have hpos := w.pos
 have hlb : lb < σ.next := by
  obtain ⟨a, b, c, d, _, ho, _⟩ := hr
  exact w.is_lt ho
 have hrowG : σ'.row (if g = 0 then σ.next else g) = σ.next :: (if g = 0 then [gb] else (σ.row g).take 8) := by
  simp only [St.row, hgr, T.get_set, if_true, Option.getD_some]
 have hG0 : (if g = 0 then σ.next else g) ≠ 0 := by split <;> omega
 refine ⟨hv, ⟨fun h => by omega, fun _ => ?_⟩, ?_⟩
 ·refine ⟨_, _, _, _, by rw [hat, if_pos rfl], hG0, ?_, ?_⟩
  ·rw [hrowG]
   rcases Nat.eq_zero_or_pos i with c | c
   ·obtain ⟨e, m', z', t', ho⟩ := h.zero c
    subst e
    rw [hg] at ho
    simp only [Option.some.injEq, AM.Obj.cells.injEq, true_and] at ho
    rw [if_pos ho.1]; simp
   ·obtain ⟨m', z', t', G, ho, h1, h2, h3⟩ := h.more c
    rw [hg] at ho
    simp only [Option.some.injEq, AM.Obj.cells.injEq, true_and] at ho
    obtain ⟨rfl, _⟩ := ho
    rw [if_neg h1, List.take_of_length_le (by omega)]
    exact List.mem_cons_of_mem _ h2
  ·rw [hrowG]
   rcases Nat.eq_zero_or_pos i with c | c
   ·obtain ⟨e, m', z', t', ho⟩ := h.zero c
    subst e
    rw [hg] at ho
    simp only [Option.some.injEq, AM.Obj.cells.injEq, true_and] at ho
    rw [if_pos ho.1]; simp
   ·obtain ⟨m', z', t', G, ho, h1, h2, h3⟩ := h.more c
    rw [hg] at ho
    simp only [Option.some.injEq, AM.Obj.cells.injEq, true_and] at ho
    obtain ⟨rfl, _⟩ := ho
    rw [if_neg h1, List.take_of_length_le (by omega)]
    simp only [List.length_cons]; omega
 ·have hdrop : ¬ (g ≠ 0 /\ lb ∈ (σ.row g).drop 8) := by
   rintro ⟨hg0, hm⟩
   rcases Nat.eq_zero_or_pos i with c | c
   ·obtain ⟨e, m', z', t', ho⟩ := h.zero c
    subst e
    rw [hg] at ho
    simp only [Option.some.injEq, AM.Obj.cells.injEq, true_and] at ho
    exact hg0 ho.1
   ·obtain ⟨m', z', t', G, ho, h1, h2, h3⟩ := h.more c
    rw [hg] at ho
    simp only [Option.some.injEq, AM.Obj.cells.injEq, true_and] at ho
    obtain ⟨rfl, _⟩ := ho
    rw [List.drop_eq_nil_of_le (by omega)] at hm
    cases hm
  have ha := hat lb
  rw [if_neg (by omega), if_neg hdrop] at ha
  obtain ⟨g0, m0, z0, t0, hm0, ho0, hc0⟩ := hr
  have cut : ∀ i, i < n -> ∀ mm, n <= mm -> cellOf mm z0 t0 i = some (f i) := by
   intro i hi mm hmm
   have := hc0 i hi
   unfold cellOf at this ⊢
   rw [if_pos (by omega)] at this
   rw [if_pos (by omega)]; exact this
  by_cases c : lb = gb
  ·subst c
   rw [if_pos rfl] at ha
   rw [hg] at ho0
   simp only [Option.some.injEq, AM.Obj.cells.injEq, true_and] at ho0
   obtain ⟨rfl, rfl, rfl, rfl⟩ := ho0
   exact ⟨_, _, _, _, by omega, ha, fun i hi => cut i hi _ (by omega)⟩
  ·rw [if_neg c] at ha
   by_cases d : g ≠ 0 /\ lb ∈ σ.row g
   ·rw [if_pos d, ho0] at ha
    simp only [cutObj] at ha
    exact ⟨_, _, _, _, by omega, ha, fun i hi => cut i hi _ (by omega)⟩
   ·rw [if_neg d] at ha
    exact ⟨g0, m0, z0, t0, hm0, ha.trans ho0, hc0⟩
end
end Go.Proofs.YtlgmpheammbacaaGreatDoor
set_option maxRecDepth 1000000
namespace Go.Proofs.YtlgmpheammbacaaGreatDoor
open AM Go
noncomputable section
set_option linter.unusedVariables false
set_option linter.unusedSimpArgs false
attribute [local irreducible] T.get T.set
variable {σ σ' : St}
theorem may_kept : MayC ((1048576 : Nat) : Int) ((4 : Nat) : Int) ((1 : Nat) : Int) := by decide
def seven : Nat -> V := fun _ => .int .u64 7
theorem listV_len (l : List (Nat × Nat)) (b : Nat) : ∃ q z, listV l b = .slice q l.length z /\ (0 < l.length -> q = some (b, 0) /\ z = 2) /\ (l.length = 0 -> q = none /\ z = 0) := by
 unfold listV
 by_cases c : l = []
 ·rw [if_pos c, c]; exact ⟨_, _, rfl, fun h => absurd h (by simp), fun _ => ⟨rfl, rfl⟩⟩
 ·rw [if_neg c]; exact ⟨_, _, rfl, fun _ => ⟨rfl, rfl⟩, fun h => absurd (List.length_eq_zero_iff.1 h) c⟩
theorem r_ArenaKept {hasK : KI -> Prop} {AK : KI -> Nat} {cK : KI -> Cont} {n o e : Nat} {q : Option (Nat × Nat)} {f : Nat -> Nat} (W0 : Wd σ hasK AK cK) (hf : ∀ i, i < n -> f i < 18446744073709551616)
  (hn : n < 9223372036854775808) (hq : 0 < n -> q = some (AK .sizes, o) /\ e = 1) (hh : ∀ k, hasK k ↔ k = .sizes /\ 0 < n) (hc : cK .sizes = .ro o n fun i => .int .u64 (f i)) :
  Runs G0 [] 3 [.slice q n e] σ fun v _ => v = .bool true := by
 refine runs_body g3 rfl ?_
 obtain ⟨v, s1, ⟨rfl, W1⟩, hr1⟩ := W0.call0 (g := 15) (P := fun v => v = .bool true) fun s w hw => r_awakeA w hw
 obtain ⟨v, s2, ⟨_, m2⟩, hr2⟩ := W1.newHeap (b := ((1048576 : Nat) : Int)) (l := ((4 : Nat) : Int)) (o := ((1 : Nat) : Int)) (by omega) (by omega)
 obtain ⟨A, rfl, W2⟩ := m2 may_kept
 have W2' : HC s2 A (heap0 1048576 4 1) hasK AK cK := W2
 have g0 := good_heap0 may_kept
 have ok0 := ok_heap0 may_kept
 obtain ⟨v, s3, h3, hr3⟩ := HC.newArena W2' ok0 (c := 64) (by omega)
 rw [if_neg (by omega), if_neg (by decide)] at h3
 obtain ⟨ar, rfl, W3⟩ := h3
 have ao0 : ArOk (heap0 1048576 4 1) (newA 64) := newA_ok (by decide)
 have hr2' : Ret G0 [] 16 [.agg [.int .u64 1048576, .int .i64 4, .int .i64 1]] s1 _ s2 := hr2
 have f1 : fillP [V.int .u64 0, .int .i64 0, .int .i64 0] [(0, 1, V.int .u64 1048576), (1, 1, V.int .i64 4), (2, 1, V.int .i64 1)] = some [V.int .u64 1048576, .int .i64 4, .int .i64 1] := rfl
 have hr3' : Ret G0 [] 17 [.ptr (some (A .heap, 0)), .int .u64 64] s2 _ s3 := hr3
 simp -implicitDefEqProofs only [go_sem, ne_eq, not_true_eq_false, not_false_eq_true, decide_false, decide_true, eqP_none, Nat.reduceEqDiff]
 refine runs_ret hr1 ?_
 simp -implicitDefEqProofs only [go_sem, ne_eq, not_true_eq_false, not_false_eq_true, decide_false, decide_true, eqP_none, Nat.reduceEqDiff, evalParts, f1]
 refine runs_ret hr2' ?_
 simp -implicitDefEqProofs only [go_sem, ne_eq, not_true_eq_false, not_false_eq_true, decide_false, decide_true, eqP_none, Nat.reduceEqDiff]
 refine runs_ret hr3' ?_
 simp -implicitDefEqProofs only [go_sem, ne_eq, not_true_eq_false, not_false_eq_true, decide_false, decide_true, eqP_none, Nat.reduceEqDiff]
 refine aw_loop (fun (k : Nat) (fr : AM.Fr) (s : St) => fr.defers = [] /\ fr.tmps.get 0 = some (.slice q n e) /\ fr.tmps.get 5 = some (.ptr (some (ar, 0))) ∧
  (∃ A H B S, ARx s A H B S hasK AK cK /\ Good H /\ ArOk H S /\ H.base = 1048576 /\ B .arena = ar) /\ ∃ i : Nat, fr.tmps.get 6 = some (.int .i64 i) /\ i + k = n) ?_ n ?_
 ·rintro k ⟨tm, ds⟩ s ⟨hd, t0, t5, ⟨A, H, B, S, W, g, ao, hb, hB⟩, i, t6, hi⟩
  simp only at hd t0 t5 t6
  subst hd
  by_cases c : i < n
  ·obtain ⟨rfl, rfl⟩ := hq (by omega)
   have d1 : (i : Int) < (n : Int) := by omega
   have d2 : (0 : Int) <= (i : Int) /\ (i : Int) < (n : Int) := by omega
   have e1 : IntKind.i64.wrap ((i : Int) + 1) = ((i + 1 : Nat) : Int) := i64_add (a := i) (b := 1) (by omega)
   have hro := (Wd.roRow W (i := (.inr .sizes : (Slot ⊕ AI) ⊕ KI)) ((hh .sizes).2 ⟨rfl, by omega⟩) hc).cell (i := i) c
   have hro' : s.cell (AK .sizes) (o + i) = some (.int .u64 (f i)) := hro
   obtain ⟨v, s4, ⟨A4, B4, W4, hA4, hB4, rfl⟩, hr4⟩ := ARx.call (g := 18) (xs := [.ptr (some (B .arena, 0)), .int .u64 (f i), .int .u64 (1 : Nat), .bool false])
    (P := fun v A' B' => A' .heap = A .heap /\ B' .arena = B .arena /\ v = .tuple [.int .u64 (allocA H S (f i) 1 false).2.2.1, .int .i64 (allocA H S (f i) 1 false).2.2.2]) W fun s R => r_AllocT R g (ao.ok g) (hf i c) (by omega) false
   obtain ⟨g4, ao4⟩ := ao.alloc g (hf i c) (a := 1) (by omega) false
   have hb4 := allocA_base g ao (hf i c) (a := 1) (by omega) false
   rw [hB] at hr4 hB4
   have hr4' : Ret G0 [] 18 [.ptr (some (ar, 0)), .int .u64 (f i), .int .u64 1, .bool false] s _ s4 := hr4
   simp -implicitDefEqProofs only [go_sem, ne_eq, not_true_eq_false, not_false_eq_true, decide_false, decide_true, eqP_none, Nat.reduceEqDiff, Nat.reduceLeDiff, t0, t5, t6, d1, d2, and_self, decide_true, Int.toNat_natCast, Nat.mul_one, hro']
   refine runs_ret hr4' ?_
   simp -implicitDefEqProofs only [go_sem, ne_eq, not_true_eq_false, not_false_eq_true, decide_false, decide_true, eqP_none, Nat.reduceEqDiff, t0, t5, t6, e1]
   exact ⟨k - 1, by omega, ⟨A4, _, B4, _, W4, g4, ao4, hb4.trans hb, hB4⟩, i + 1, rfl, by omega⟩
  ·have d1 : ¬ ((i : Int) < (n : Int)) := by omega
   have hS := ao.ok g
   obtain ⟨fl, pl, fc, inv⟩ := g.fine
   have hbig : ∀ j, j < S.chunks.length -> 1048576 <= (S.chunks.getD j (0, 0)).1 := by
    intro j hj
    have hm : S.chunks.getD j (0, 0) ∈ S.chunks := by
     rw [List.getD_eq_getElem?_getD, List.getElem?_eq_getElem hj]; exact List.getElem_mem hj
    have := (inv.live_range (ao.live _ hm)).1
    omega
   have hfew := hS.few
   have ch : ∀ {s : St} {has : (Slot ⊕ AI) ⊕ KI -> Prop} {A' : (Slot ⊕ AI) ⊕ KI -> Nat} {c' : (Slot ⊕ AI) ⊕ KI -> Cont}, Wd s has A' c' -> (∀ x : AI, S.has x -> has (.inl (.inr x)) /\ A' (.inl (.inr x)) = B x /\ c' (.inl (.inr x)) = S.cont (A .heap) B x) -> ∀ i0, ¬ has i0 →
     Runs G0 [] 19 [.ptr (some (ar, 0))] s fun r s' => ∃ b, r = listV S.chunks b /\ Grow s s' /\ s.next <= b /\ (S.chunks ≠ [] -> Lcl s' b (S.chunks.length * 2) (blkV S.chunks)) ∧
      Wd s' (fun i => has i \/ (i = i0 /\ S.chunks ≠ [])) (updG A' i0 b) (updG c' i0 (.row (S.chunks.length * 2) (blkV S.chunks))) := by
    intro s has A' c' W hx i0 h0
    obtain ⟨a1, a2, a3⟩ := hx .arena trivial
    have hrow := W.row a1 a3
    rw [a2] at hrow
    have h2 := hrow.cell (i := 2) (by omega)
    rw [<- hB]
    refine r_ChunksW W hS h2 (fun hC => ?_) h0
    obtain ⟨b1, b2, b3⟩ := hx .chunks hC
    have hrow := W.row b1 b3
    rw [b2] at hrow
    exact hrow
   obtain ⟨v5, s5, ⟨lb, hv5, gr5, hlb, L5, W5⟩, hr5⟩ := ch W (fun x hx => ⟨hx, rfl, rfl⟩) (.inr .l) (by
    rw [show (Sum.elim (Sum.elim H.has S.has) hasK) (.inr .l) = hasK .l from rfl, hh]; rintro ⟨h, _⟩; cases h)
   have W5' : Wd s5 (Sum.elim (Sum.elim H.has S.has) hasK) (Sum.elim (Sum.elim A B) AK) (Sum.elim (Sum.elim (heapC H A) (S.cont (A .heap) B)) cK) := Wd.grow W gr5 W5.gw
   obtain ⟨v6, s6, ⟨mb, hv6, gr6, hmb, L6, W6⟩, hr6⟩ := ch W5' (fun x hx => ⟨hx, rfl, rfl⟩) (.inr .m) (by
    rw [show (Sum.elim (Sum.elim H.has S.has) hasK) (.inr .m) = hasK .m from rfl, hh]; rintro ⟨h, _⟩; cases h)
   obtain ⟨ql, zl, hl, hl1, hl0⟩ := listV_len S.chunks lb
   obtain ⟨qm, zm, hm, hm1, hm0⟩ := listV_len S.chunks mb
   rw [hl] at hv5
   rw [hm] at hv6
   subst hv5 hv6
   simp -implicitDefEqProofs only [go_sem, ne_eq, not_true_eq_false, not_false_eq_true, decide_false, decide_true, eqP_none, Nat.reduceEqDiff, t0, t5, t6, d1, decide_false]
   refine runs_ret hr5 ?_
   simp -implicitDefEqProofs only [go_sem, ne_eq, not_true_eq_false, not_false_eq_true, decide_false, decide_true, eqP_none, Nat.reduceEqDiff, t5]
   refine runs_ret hr6 ?_
   simp -implicitDefEqProofs only [go_sem, ne_eq, not_true_eq_false, not_false_eq_true, decide_false, decide_true, eqP_none, Nat.reduceEqDiff, t5]
   obtain ⟨K, hK⟩ : ∃ K, K = S.chunks.length := ⟨_, rfl⟩
   rw [<- hK] at hl1 hl0 hm1 hm0 hfew hbig L5 L6 W6 ⊢
   have hnil : S.chunks ≠ [] ↔ 0 < K := by rw [hK, List.length_pos_iff]
   obtain ⟨has6, hhas6⟩ : ∃ x, x = fun i => (Sum.elim (Sum.elim H.has S.has) hasK) i \/ (i = .inr .m /\ S.chunks ≠ []) := ⟨_, rfl⟩
   obtain ⟨A6, hA6⟩ : ∃ x, x = updG (Sum.elim (Sum.elim A B) AK) (.inr .m) mb := ⟨_, rfl⟩
   obtain ⟨c6, hc6⟩ : ∃ x, x = updG (Sum.elim (Sum.elim (heapC H A) (S.cont (A .heap) B)) cK) (.inr .m) (.row (K * 2) (blkV S.chunks)) := ⟨_, rfl⟩
   rw [<- hhas6, <- hA6, <- hc6] at W6
   have hl6 : ¬ has6 (.inr .l) := by
    rw [hhas6]
    rintro (h | ⟨h, _⟩)
    ·have := (hh .l).1 h; cases this.1
    ·cases h
   have hn6 : ¬ has6 (.inr .n) := by
    rw [hhas6]
    rintro (h | ⟨h, _⟩)
    ·have := (hh .n).1 h; cases this.1
    ·cases h
   have hm6 : 0 < K -> has6 (.inr .m) /\ A6 (.inr .m) = mb /\ c6 (.inr .m) = .row (K * 2) (blkV S.chunks) := by
    intro h
    rw [hhas6, hA6, hc6]
    exact ⟨.inr ⟨rfl, hnil.2 h⟩, updG_same, updG_same⟩
   have ha6 : ∀ x : AI, S.has x -> has6 (.inl (.inr x)) /\ A6 (.inl (.inr x)) = B x /\ c6 (.inl (.inr x)) = S.cont (A .heap) B x := by
    intro x hx
    rw [hhas6, hA6, hc6]
    refine ⟨.inl hx, ?_, ?_⟩
    ·rw [updG_ne (by intro h; cases h)]; rfl
    ·rw [updG_ne (by intro h; cases h)]; rfl
   have hw0 : widthsId < s.next := W.wid.lt W.gw
   have L56 : 0 < K -> Lcl s6 lb (K * 2) (blkV S.chunks) := fun h => (L5 (hnil.2 h)).grow W5.gw gr6
   have hlw : lb ≠ widthsId := by omega
   have hlA : 0 < K -> ∀ i, has6 i -> A6 i ≠ lb := by
    intro h0 i hi
    have hlt5 := (L5 (hnil.2 h0)).lt W5.gw
    rw [hhas6] at hi
    rw [hA6]
    by_cases ci : i = .inr .m
    ·rw [ci, updG_same]; omega
    ·rw [updG_ne ci]
     have := W.lt (hi.resolve_right fun h => ci h.1)
     omega
   have f7 : fillP [V.int .u64 0, .int .u64 0] [(0, 1, V.int .u64 7), (1, 1, V.int .u64 7)] = some [V.int .u64 7, .int .u64 7] := rfl
   have e7 : [V.int .u64 7, .int .u64 7].length = 2 := rfl
   refine aw_loop (fun (k : Nat) (fr : AM.Fr) (s : St) => fr.defers = [] /\ fr.tmps.get 5 = some (.ptr (some (ar, 0))) /\ fr.tmps.get 7 = some (.slice ql K zl) /\ fr.tmps.get 8 = some (.slice qm K zm) ∧
    Wd s has6 A6 c6 /\ ∃ i : Nat, fr.tmps.get 9 = some (.int .i64 i) /\ i + k = K /\ (0 < K -> Lcl s lb (K * 2) fun j => if j < i * 2 then .int .u64 7 else blkV S.chunks j)) ?_ K ?_
   ·rintro k ⟨tm, ds⟩ s ⟨hd, t5, t7, t8, W, i, t9, hi, L⟩
    simp only at hd t5 t7 t8 t9
    subst hd
    by_cases c : i < K
    ·obtain ⟨rfl, rfl⟩ := hl1 (by omega)
     have d1 : (i : Int) < (K : Int) := by omega
     have d2 : (0 : Int) <= (i : Int) /\ (i : Int) < (K : Int) := by omega
     have e1 : IntKind.i64.wrap ((i : Int) + 1) = ((i + 1 : Nat) : Int) := i64_add (a := i) (b := 1) (by omega)
     obtain ⟨s', hst, L', w', hput⟩ := (L (by omega)).store W.gw (off := i * 2) (vs := [V.int .u64 7, .int .u64 7]) (by rw [e7]; omega) rfl
     simp -implicitDefEqProofs only [go_sem, ne_eq, not_true_eq_false, not_false_eq_true, decide_false, decide_true, Nat.reduceEqDiff, t5, t7, t8, t9, d1, d2, and_self, Int.toNat_natCast, evalParts, f7, vcells_agg, e7, hst, e1]
     refine ⟨k - 1, by omega, W.put hput w' hlw (hlA (by omega)), i + 1, rfl, by omega, fun _ => L'.congr (Nat.le_refl _) fun j hj => ?_⟩
     unfold over
     by_cases c1 : i * 2 <= j /\ j < i * 2 + 2
     ·rw [if_pos (by rw [e7]; exact c1), if_pos (by omega)]
      rcases (by omega : j - i * 2 = 0 \/ j - i * 2 = 1) with h | h <;> rw [h] <;> rfl
     ·rw [if_neg (by rw [e7]; exact c1)]
      show (if j < i * 2 then V.int .u64 7 else blkV S.chunks j) = _
      by_cases c2 : j < i * 2
      ·rw [if_pos c2, if_pos (by omega)]
      ·rw [if_neg c2, if_neg (by omega)]
    ·have d1 : ¬ ((i : Int) < (K : Int)) := by omega
     simp -implicitDefEqProofs only [go_sem, Nat.reduceEqDiff, t5, t7, t8, t9, d1, decide_false]
     have Ls : 0 < K -> Lcl s lb (K * 2) seven := fun h => (L h).congr (Nat.le_refl _) fun j hj => by rw [if_pos (by omega)]; rfl
     have hrs : (repeatZ [V.int .u64 0, V.int .u64 0] 1) = [V.int .u64 0, V.int .u64 0] := rfl
     have f8 : fillP [V.int .u64 0, .int .u64 0] [(0, 2, V.agg [V.int .u64 7, V.int .u64 7])] = some [V.int .u64 7, .int .u64 7] := rfl
     refine aw_loop (fun (k : Nat) (fr : AM.Fr) (s : St) => fr.defers = [] /\ fr.tmps.get 5 = some (.ptr (some (ar, 0))) /\ fr.tmps.get 7 = some (.slice ql K zl) /\ fr.tmps.get 8 = some (.slice qm K zm) ∧
      ∃ i : Nat, fr.tmps.get 11 = some (.int .i64 i) /\ i + k = 6 /\ ∃ q z has A c, fr.tmps.get 10 = some (.slice q (K + i) z) /\ Wd s has A c /\ (∀ x, has6 x -> has x /\ A x = A6 x /\ c x = c6 x) /\ ¬ has (.inr .n) ∧
       (0 < K + i -> has (.inr .l) /\ q = some (A (.inr .l), 0) /\ z = 2 /\ ∃ f, c (.inr .l) = .row ((K + i) * 2) f) /\ (K + i = 0 -> q = none /\ z = 0 /\ ¬ has (.inr .l)) /\ (0 < K -> Behind s lb (A (.inr .l)) i /\ Row s lb (K * 2) seven)) ?_ 6 ?_
     ·rintro k ⟨tm, ds⟩ s ⟨hd, t5, t7, t8, i, t11, hi, q, z, has, A, c, t10, W, hx6, hnn, hpos, hzero, hB⟩
      simp only at hd t5 t7 t8 t10 t11
      subst hd
      by_cases c' : i < 6
      ·have d1 : (i : Int) < 6 := by omega
       have e1 : IntKind.i64.wrap ((i : Int) + 1) = ((i + 1 : Nat) : Int) := i64_add (a := i) (b := 1) (by omega)
       obtain ⟨vs, hvs⟩ : ∃ vs, vs = [V.int .u64 7, V.int .u64 7] := ⟨_, rfl⟩
       have hvl : vs.length = 2 := by rw [hvs]; rfl
       have f7v : fillP [V.int .u64 0, .int .u64 0] [(0, 1, V.int .u64 7), (1, 1, V.int .u64 7)] = some vs := by rw [hvs]; rfl
       have f8v : fillP [V.int .u64 0, .int .u64 0] [(0, 2, V.agg vs)] = some vs := by rw [hvs]; rfl
       have hvf : vs.all V.flat = true := by rw [hvs]; rfl
       obtain ⟨f, hcase⟩ : ∃ f, (has (.inr .l) /\ V.slice q (K + i) z = .slice (some (A (.inr .l), 0)) (K + i) 2 /\ c (.inr .l) = .row ((K + i) * 2) f) \/ (¬ has (.inr .l) /\ V.slice q (K + i) z = .slice none 0 0 /\ K + i = 0) := by
        rcases Nat.eq_zero_or_pos (K + i) with h0 | h0
        ·obtain ⟨rfl, rfl, h3⟩ := hzero h0
         exact ⟨fun _ => .undef, .inr ⟨h3, by rw [h0], h0⟩⟩
        ·obtain ⟨h1, rfl, rfl, f, h4⟩ := hpos h0
         exact ⟨f, .inl ⟨h1, rfl, h4⟩⟩
       obtain ⟨b, s', hap, W'⟩ := W.push (i0 := .inr .l) (xl := K + i) (esz := 2) (bytes := 16) (vs := vs) hcase (by omega) hvl (by unfold maxLenBytes; omega) (by unfold maxLenBytes; omega) hvf
       have hB' : 0 < K -> Behind s' lb b (i + 1) /\ Row s' lb (K * 2) seven := by
        intro h0
        obtain ⟨h1, rfl, rfl, _⟩ := hpos (by omega)
        obtain ⟨b1, b2⟩ := hB h0
        have gr : Grow s (s.newCells vs) := Grow.new _ _
        have hw : GW (s.newCells vs) := W.gw.new _ rfl
        have hld := newCells_load s vs
        rw [hvl] at hld
        unfold AM.appendV at hap
        simp only [Nat.one_mul, hld] at hap
        rw [if_neg (by rintro (h | ⟨h, _⟩); omega; exact h rfl), if_neg (by omega)] at hap
        obtain ⟨r1, r2, r3⟩ := (b1.grow W.gw gr).append hw (by omega) hap (gr.row W.gw b2) (by omega)
        simp only [V.slice.injEq, Option.some.injEq, Prod.mk.injEq, and_true] at r1
        rw [r1]; exact ⟨r2, r3⟩
       simp -implicitDefEqProofs only [go_sem, ne_eq, not_true_eq_false, not_false_eq_true, decide_false, decide_true, Nat.reduceEqDiff, t5, t7, t8, t10, t11, d1, e1, evalParts, f7v, hrs, f8v, hap]
       refine ⟨k - 1, by omega, i + 1, rfl, by omega, _, _, _, _, _, rfl, W', ?_, ?_, ?_, ?_, ?_⟩
       ·intro x hx
        obtain ⟨y1, y2, y3⟩ := hx6 x hx
        have hne : x ≠ .inr .l := fun e => hl6 (e ▸ hx)
        exact ⟨.inl y1, by rw [updG_ne hne]; exact y2, by rw [updG_ne hne]; exact y3⟩
       ·rintro (h | h)
        ·exact hnn h
        ·cases h
       ·intro _
        refine ⟨.inr rfl, by rw [updG_same], rfl, _, by rw [updG_same, show (K + i) * 2 + 2 = (K + (i + 1)) * 2 by omega]⟩
       ·intro h; omega
       ·rw [updG_same]; exact hB'
      ·have d1 : ¬ ((i : Int) < 6) := by omega
       have hi6 : i = 6 := by omega
       subst hi6
       obtain ⟨v8, s8, ⟨nb, hv8, gr8, hnb, L8, W8⟩, hr8⟩ := ch W (fun x hx => by
        obtain ⟨a1, a2, a3⟩ := ha6 x hx
        obtain ⟨y1, y2, y3⟩ := hx6 _ a1
        exact ⟨y1, y2.trans a2, y3.trans a3⟩) (.inr .n) hnn
       obtain ⟨qn, zn, hn', hn1, hn0⟩ := listV_len S.chunks nb
       rw [hn', <- hK] at hv8
       rw [<- hK] at hn1 L8 W8
       subst hv8
       simp -implicitDefEqProofs only [go_sem, Nat.reduceEqDiff, t5, t7, t8, t10, t11, d1, decide_false]
       refine runs_ret hr8 ?_
       simp -implicitDefEqProofs only [go_sem, Nat.reduceEqDiff, t5, t7, t8, t10]
       have rl : 0 < K -> Row s8 lb (K * 2) seven := fun h => gr8.row W.gw (hB h).2
       have rm : 0 < K -> Row s8 mb (K * 2) (blkV S.chunks) := fun h => by
        obtain ⟨m1, m2, m3⟩ := hm6 h
        obtain ⟨y1, y2, y3⟩ := hx6 _ m1
        have := W.row y1 (y3.trans m3)
        rw [y2, m2] at this
        exact gr8.row W.gw this
       have rn : 0 < K -> Row s8 nb (K * 2) (blkV S.chunks) := fun h => (L8 (hnil.2 h)).row
       refine aw_loop (fun (k : Nat) (fr : AM.Fr) (s : St) => s = s8 /\ fr.defers = [] /\ fr.tmps.get 7 = some (.slice ql K zl) /\ fr.tmps.get 8 = some (.slice qm K zm) /\ fr.tmps.get 10 = some (.slice q (K + 6) z) /\ fr.tmps.get 12 = some (.slice qn K zn) ∧
        ∃ i : Nat, fr.tmps.get 13 = some (.int .i64 i) /\ i + k = K) ?_ K ?_
       ·rintro k ⟨tm, ds⟩ s ⟨rfl, hd, t7, t8, t10, t12, i, t13, hi⟩
        simp only at hd t7 t8 t10 t12 t13
        subst hd
        by_cases c : i < K
        ·obtain ⟨rfl, rfl⟩ := hl1 (by omega)
         obtain ⟨rfl, rfl⟩ := hm1 (by omega)
         obtain ⟨rfl, rfl⟩ := hn1 (by omega)
         have d1 : (i : Int) < (K : Int) := by omega
         have d2 : (0 : Int) <= (i : Int) /\ (i : Int) < (K : Int) := by omega
         have e1 : IntKind.i64.wrap ((i : Int) + 1) = ((i + 1 : Nat) : Int) := i64_add (a := i) (b := 1) (by omega)
         obtain ⟨x, hx⟩ : ∃ x, S.chunks.getD i (0, 0) = x := ⟨_, rfl⟩
         have hb7 := hbig i c
         rw [hx] at hb7
         have lm := (rm (by omega)).load (off := i * 2) (k := 2) (by omega)
         have ln := (rn (by omega)).load (off := i * 2) (k := 2) (by omega)
         rw [blkV_at hx] at lm ln
         have cl := (rl (by omega)).cell (i := i * 2) (by omega)
         have cm := (rm (by omega)).cell (i := i * 2) (by omega)
         have hbv : blkV S.chunks (i * 2) = .int .u64 x.1 := by
          unfold blkV
          rw [if_pos (by omega), show i * 2 / 2 = i by omega, hx]
         rw [hbv] at cm
         rw [show seven (i * 2) = .int .u64 7 from rfl] at cl
         have d7 : ¬ ((x.1 : Int) = 7) := by omega
         have heq : eqCells [true, true] [V.int .u64 x.1, V.int .u64 x.2] [V.int .u64 x.1, V.int .u64 x.2] = some true := by simp [eqCells, eqPlain]
         simp -implicitDefEqProofs only [go_sem, ne_eq, not_true_eq_false, not_false_eq_true, decide_false, decide_true, Nat.reduceEqDiff, t7, t8, t10, t12, t13, d1, d2, and_self, Int.toNat_natCast, lm, ln, heq, cl, cm, d7, e1]
         exact ⟨k - 1, by omega, i + 1, rfl, by omega⟩
        ·have d1 : ¬ ((i : Int) < (K : Int)) := by omega
         have e6 : IntKind.i64.wrap ((K : Int) + 6) = ((K + 6 : Nat) : Int) := i64_add (a := K) (b := 6) (by omega)
         simp -implicitDefEqProofs only [go_sem, ne_eq, not_true_eq_false, not_false_eq_true, decide_true, Nat.reduceEqDiff, t7, t8, t10, t12, t13, d1, decide_false, e6]
       ·simp -implicitDefEqProofs only [go_sem, Nat.reduceEqDiff, t7, t8, t10]
        exact ⟨0, rfl, by omega⟩
     ·simp -implicitDefEqProofs only [go_sem, Nat.reduceEqDiff, t5, t7, t8]
      refine ⟨0, rfl, rfl, ql, zl, ?_⟩
      rcases Nat.eq_zero_or_pos K with h0 | h0
      ·refine ⟨has6, A6, c6, rfl, W, fun x h => ⟨h, rfl, rfl⟩, hn6, fun h => absurd h (by omega), fun _ => ⟨(hl0 h0).1, (hl0 h0).2, hl6⟩, fun h => absurd h (by omega)⟩
      ·have W7 := W.addLcl (i0 := .inr .l) hl6 (Ls h0) (hlA h0)
       refine ⟨_, _, _, rfl, W7, fun x h => ?_, ?_, fun _ => ?_, fun h => absurd h (by omega), fun _ => ?_⟩
       ·have hne : x ≠ .inr .l := fun e => hl6 (e ▸ h)
        exact ⟨.inl h, updG_ne hne, updG_ne hne⟩
       ·rintro (h | h)
        ·exact hn6 h
        ·cases h
       ·exact ⟨.inr rfl, by rw [updG_same]; exact (hl1 h0).1, (hl1 h0).2, seven, updG_same⟩
       ·rw [updG_same]
        refine ⟨⟨fun _ => ⟨rfl, ?_⟩, fun h => absurd h (by omega)⟩, (Ls h0).row⟩
        obtain ⟨m, z, t, _, ho, _⟩ := Ls h0
        exact ⟨m, z, t, ho⟩
   ·simp -implicitDefEqProofs only [go_sem, Nat.reduceEqDiff, t5]
    exact ⟨W6, 0, rfl, by omega, fun h => (L56 h).congr (Nat.le_refl _) fun j hj => by rw [if_neg (by omega)]⟩
 ·simp -implicitDefEqProofs only [go_sem, ne_eq, not_true_eq_false, not_false_eq_true, decide_false, decide_true, eqP_none, Nat.reduceEqDiff]
  exact ⟨⟨A, _, _, _, W3, g0, ao0, rfl, rfl⟩, 0, rfl, by omega⟩
end
end Go.Proofs.YtlgmpheammbacaaGreatDoor
