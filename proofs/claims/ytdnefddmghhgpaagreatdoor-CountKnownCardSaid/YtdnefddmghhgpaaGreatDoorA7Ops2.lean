import Derived.Test.YtdnefddmghhgpaaGreatDoorA7Ops1
namespace AM
open Go Go.RowKit
set_option linter.unusedVariables false
set_option linter.unusedSimpArgs false
variable {P : Program} {φ : Phi} {tm : T V} {a : Act} {w : World}

theorem max_rel (mx : Bool) : ∀ {l : List V} {L : List Value} {x v : V} {X : Value}, LR φ l L → VR φ x X → maxV mx x l = some v →
    ∃ Y, ((L.foldlM (if mx then Builtin.max2 else Builtin.min2) X : Sem Value)).run P w = .ok Y w ∧ VR φ v Y
  | [], L, x, v, X, hl, hx, h => by cases hl; simp [maxV] at h; subst h; exact ⟨X, rfl, hx⟩
  | y :: r, L, x, v, X, ⟨Y, s, hL, hy, hr⟩, hx, h => by
    subst hL
    unfold maxV at h
    split at h
    · rename_i heq; cases heq
    · rename_i k p k' q r' heq
      simp at heq; obtain ⟨rfl, rfl⟩ := heq
      have hx : X = .int k p := hx
      have hy : Y = .int k' q := hy
      subst hx; subst hy
      split at h
      · rename_i hk; subst hk
        obtain ⟨Z, hZ, hv⟩ := max_rel mx hr (x := .int k (if mx then (if q > p then q else p) else (if q < p then q else p))) (X := .int k (if mx then (if q > p then q else p) else (if q < p then q else p))) rfl h
        refine ⟨Z, ?_, hv⟩
        cases mx <;> simpa [List.foldlM_cons, Builtin.max2, Builtin.min2] using hZ
      · cases h
    · cases h

theorem part_rel {t : TypeId} {g : Bool} {n off : Nat} (hg : aggT P t = some g) (hn : szOf P t = some n) {cs : List V} {C : Array Value} (hC : LR φ cs C.toList) {v : V}
    (h : (if g then (if off + n ≤ cs.length then some (.agg ((cs.drop off).take n)) else none) else cs[off]?) = some v) : ∃ X, (part t C off).run P w = .ok X w ∧ VR φ v X := by
  cases g with
  | true =>
    simp only [if_true] at h
    split at h
    · simp at h; subst h
      refine ⟨.agg (C.extract off (off + n)), by simp [part, run_isAgg' hg, run_sizeOf' hn], VR.agg ?_⟩
      have := LR.take n (LR.drop off hC)
      simpa [Array.toList_extract, List.extract_eq_take_drop] using this
    · cases h
  | false =>
    simp only [Bool.false_eq_true, if_false] at h
    obtain ⟨X, hX, hv⟩ := hC.get off v h
    exact ⟨X, part_one hg (by simpa using hX), hv⟩

theorem addr_add (b o n : Nat) : (⟨b, o, none⟩ : Addr).add n = ⟨b, o + n, none⟩ := add_none b o n

theorem mapM_fields (f : Field → Sem (Nat × Nat)) (g : Field → Nat × Nat) : ∀ (fs : List Field), (∀ x ∈ fs, ∀ w, (f x).run P w = .ok (g x) w) → ∀ w, (fs.mapM f).run P w = .ok (fs.map g) w
  | [], h, w => by simp
  | x :: r, h, w => by
    simp only [List.mapM_cons, Sem.run_bind, h x (by simp) w, Result.andThen_ok, mapM_fields f g r (fun y hy => h y (by simp [hy])) w, Sem.run_pure, List.map_cons]

theorem mapM_fields' (f : Field → Sem (Nat × Nat)) (g : Field → Nat × Nat) (fs : Array Field) (h : ∀ x ∈ fs.toList, ∀ w, (f x).run P w = .ok (g x) w) (w : World) : (fs.mapM f).run P w = .ok (fs.map g) w := by
  rw [Array.mapM_eq_mapM_toList]
  simp only [Sem.run_map, mapM_fields f g fs.toList h w, Result.andThen_ok]
  congr 1
  apply Array.ext'; simp

theorem fill_congr {p q : Nat → Option (Nat × Nat)} (h : ∀ i, p i = q i) (C : Array Value) (l : List (Nat × Value)) : Instr.fill p C l = Instr.fill q C l := by
  have : p = q := funext h
  rw [this]

theorem builtin_pure {dst : Option Tmp} {type : TypeId} {pos : String} {after : Array Edge} {guard : Option (Nat × Bool)} {b : Builtin} {args : Array Operand} {ats : Array TypeId} {op : AOp} {v : V}
    (hc : cBuiltin P b ats args.toList = some op) (hp : isPure op = true) (hv : pureOp op tm = some v) (hG : GR P φ) (hT : TR φ tm a op.tmps) :
    Tells P a ⟨dst, .call ⟨.builtin b, args, ats⟩, type, pos, after, guard⟩ φ v w := by
  obtain ⟨args⟩ := args
  simp only at hc
  unfold cBuiltin at hc
  split at hc
  · rename_i t x hat
    split at hc
    · rename_i n e hu
      cases hc
      simp [pureOp] at hv; subst hv
      exact ⟨.int .i64 n, by simp [execOp, resolve, invoke, builtin, Builtin.len_, hat, run_underlying' hu, goInt], rfl⟩
    · rename_i e y hu hy
      cases hc
      have r := opd_rel (tm := tm) (a := a) hG hy hT
      simp only [pureOp] at hv
      split at hv
      · rename_i ad n e' he
        simp at hv; subst hv
        rw [he] at r
        cases ad with
        | none => 
          obtain ⟨h0, hx⟩ := r
          subst h0
          exact ⟨.int .i64 (0 : Nat), by simp [execOp, resolve, invoke, builtin, Builtin.len_, hat, run_underlying' hu, goInt, hx], rfl⟩
        | some q =>
          obtain ⟨b, m, o', cap, hb, hx, _⟩ := r
          exact ⟨.int .i64 n, by simp [execOp, resolve, invoke, builtin, Builtin.len_, hat, run_underlying' hu, goInt, hx], rfl⟩
      · cases hv
    · cases hc; simp [isPure] at hp
    · cases hc
  · split at hc
    · split at hc
      · split at hc
        · split at hc <;> cases hc <;> simp [isPure] at hp
        · cases hc
      · cases hc
    · cases hc
  · split at hc
    · split at hc <;> cases hc; simp [isPure] at hp
    · cases hc
  · split at hc
    · split at hc <;> cases hc; simp [isPure] at hp
    · cases hc; simp [isPure] at hp
    · cases hc
  · split at hc
    · rename_i l hl
      cases hc
      have r := opds_rel (tm := tm) (a := a) hG hl hT
      simp only [pureOp] at hv
      split at hv
      · cases hv
      · rename_i y ys hys
        rw [hys] at r
        obtain ⟨Y, s, hs, hy, hr⟩ := r
        obtain ⟨Z, hZ, hvZ⟩ := max_rel (P := P) (w := w) true hr hy hv
        refine ⟨Z, ?_, hvZ⟩
        simp only [if_true] at hZ
        simp [execOp, resolve, invoke, builtin, Builtin.max_, hs, hZ]
    · cases hc
  · split at hc
    · rename_i l hl
      cases hc
      have r := opds_rel (tm := tm) (a := a) hG hl hT
      simp only [pureOp] at hv
      split at hv
      · cases hv
      · rename_i y ys hys
        rw [hys] at r
        obtain ⟨Y, s, hs, hy, hr⟩ := r
        obtain ⟨Z, hZ, hvZ⟩ := max_rel (P := P) (w := w) false hr hy hv
        refine ⟨Z, ?_, hvZ⟩
        simp only [Bool.false_eq_true, if_false] at hZ
        simp [execOp, resolve, invoke, builtin, Builtin.min_, hs, hZ]
    · cases hc
  · split at hc
    · split at hc <;> cases hc; simp [isPure] at hp
    · cases hc
  · cases hc

theorem pure_sound0 {o : Oper} {op : AOp} {v : V} (hc : compOp0 P o = some op) (hp : isPure op = true) (hv : pureOp op tm = some v) (hG : GR P φ) (hT : TR φ tm a op.tmps) : Tells P a o φ v w := by
  obtain ⟨dst, op', type, pos, after, guard⟩ := o
  unfold Tells
  cases op' with
  | move x =>
    simp only [compOp0] at hc
    split at hc
    · rename_i y hy; cases hc; simp [pureOp] at hv; subst hv; exact ⟨_, rfl, opd_raw hG hy hT⟩
    · cases hc
  | assign x =>
    simp only [compOp0] at hc
    split at hc
    · rename_i y hy; cases hc; simp [pureOp] at hv; subst hv; exact ⟨_, rfl, opd_raw hG hy hT⟩
    · cases hc
  | pick c x y =>
    simp only [compOp0] at hc
    split at hc
    · rename_i c' x' y' h1 h2 h3; cases hc
      have r1 := opd_rel (tm := tm) (a := a) hG h1 hT.left.left
      have r2 := opd_rel (tm := tm) (a := a) hG h2 hT.left.right
      have r3 := opd_rel (tm := tm) (a := a) hG h3 hT.right
      simp only [pureOp] at hv
      split at hv
      · rename_i t ht
        rw [ht] at r1
        have r1 : a.eval c = .bool t := r1
        simp at hv; subst hv
        cases t
        · exact ⟨_, by simp [execOp, asBool, r1], r3⟩
        · exact ⟨_, by simp [execOp, asBool, r1], r2⟩
      · cases hv
    · cases hc
  | build t ps =>
    simp only [compOp0] at hc
    split at hc
    · rename_i z fs hz hu
      split at hc
      · rename_i l hl
        split at hc
        · rename_i hfs
          cases hc
          have hpr := parts_rel (tm := tm) (a := a) hG hl hT
          simp only [pureOp] at hv
          split at hv
          · rename_i cs hcs
            simp at hv; subst hv
            obtain ⟨X, hX, hr, hs, hXs⟩ := zeroC_spec hz
            obtain ⟨D, hD, hcD⟩ := fill_rel hpr (hr φ) hcs
            refine ⟨.agg D, ?_, VR.agg hcD⟩
            have hall : ∀ f ∈ fs.toList, ∃ n, szOf P f.type = some n := by
              intro f hf
              have := Array.all_eq_true_iff_forall_mem.1 hfs f (by simpa using hf)
              exact Option.isSome_iff_exists.1 this
            have hm := mapM_fields' (P := P) (fun f : Field => do pure (f.offset, ← Go.sizeOf f.type)) (fun f : Field => (f.offset, (szOf P f.type).getD 0)) fs (fun f hf w => by
              obtain ⟨n, hn⟩ := hall f hf
              simp [run_sizeOf' hn, hn]) w
            have hpl : ∀ i : Nat, (fs.map fun f : Field => (f.offset, (szOf P f.type).getD 0))[i]? = (match fs[i]? with | some f => (match szOf P (Field.type f) with | some s => some (Field.offset f, s) | none => none) | none => none) := by
              intro i
              rw [Array.getElem?_map]
              cases hfi : fs[i]? with
              | none => rfl
              | some f =>
                obtain ⟨n, hn⟩ := hall f (by have := Array.mem_of_getElem? hfi; simpa using this)
                simp [hn]
            have hD' := (fill_congr hpl X.cells (ps.toList.map fun p => (p.1, a.eval p.2))).trans hD
            simp only [execOp, Instr.build, Sem.run_bind, hX, Result.andThen_ok, run_underlying' hu, hm, Array.toList_map]
            rw [hD']; rfl
          · cases hv
        · cases hc
      · cases hc
    · rename_i z n e hz hu
      split at hc
      · rename_i s hs
        split at hc
        · rename_i l hl
          cases hc
          have hpr := parts_rel (tm := tm) (a := a) hG hl hT
          simp only [pureOp] at hv
          split at hv
          · rename_i cs hcs
            simp at hv; subst hv
            obtain ⟨X, hX, hr, hs', hXs⟩ := zeroC_spec hz
            obtain ⟨D, hD, hcD⟩ := fill_rel hpr (hr φ) hcs
            refine ⟨.agg D, ?_, VR.agg hcD⟩
            simp only [execOp, Instr.build, Sem.run_bind, hX, Result.andThen_ok, run_underlying' hu, run_sizeOf' hs, Array.toList_map]
            rw [hD]; rfl
          · cases hv
        · cases hc
      · cases hc
    · cases hc
  | nilCheck x =>
    simp only [compOp0] at hc
    split at hc
    · rename_i y hy; cases hc
      have r := opd_rel (tm := tm) (a := a) hG hy hT
      simp only [pureOp] at hv
      split at hv
      · rename_i q hq
        simp at hv; subst hv
        rw [hq] at r
        obtain ⟨b, n, hb, hx⟩ := r
        exact ⟨a.eval x, by simp [execOp, hx], b, n, hb, hx⟩
      · rename_i f x' c' hq
        simp at hv; subst hv
        rw [hq] at r
        obtain ⟨X, C, hx, hr⟩ := r
        exact ⟨a.eval x, by simp [execOp, hx], X, C, hx, hr⟩
      · rename_i l hq
        simp at hv; subst hv
        rw [hq] at r
        obtain ⟨b, n, hb, hx⟩ := r
        exact ⟨a.eval x, by simp [execOp, hx], b, n, hb, hx⟩
      · cases hv
    · cases hc
  | binOp bop t x y yt =>
    simp only [compOp0, cBin] at hc
    split at hc
    · rename_i x' y' h1 h2
      split at hc
      · rename_i k hu
        cases hc
        have r1 := opd_rel (tm := tm) (a := a) hG h1 hT.left
        have r2 := opd_rel (tm := tm) (a := a) hG h2 hT.right
        simp only [pureOp] at hv
        obtain ⟨Z, hZ, hr⟩ := run_bin (P := P) (w := w) (t := t) hv r1 r2
        refine ⟨Z, ?_, hr⟩
        have hg : (eqGuard bop t x y (a.eval x) (a.eval y)).run P w = .ok () w := by
          unfold bin at hv
          split at hv
          · rename_i k1 n1 k2 n2 e1 e2
            rw [e1] at r1; rw [e2] at r2
            have r1 : a.eval x = .int k1 n1 := r1
            refine eqGuard_plain bop t x y _ _ (by rw [r1]; simp) (by rw [r1]; simp)
          · cases hv
        simp [execOp, hg, hZ]
      · rename_i fs hu
        split at hc
        · rename_i hcond
          split at hc
          · rename_i ks hk
            cases hc
            have r1 := opd_rel (tm := tm) (a := a) hG h1 hT.left
            have r2 := opd_rel (tm := tm) (a := a) hG h2 hT.right
            simp only [pureOp] at hv
            split at hv
            · rename_i xs ys e1 e2
              rw [e1] at r1; rw [e2] at r2
              obtain ⟨C, hC, hxC⟩ := r1
              obtain ⟨D, hD, hyD⟩ := r2
              split at hv
              · rename_i r hr
                simp only [Option.some.injEq] at hv; subst hv
                have he := eqs_run (w := w) hk hxC hyD hr
                have hg : (eqGuard bop t x y (a.eval x) (a.eval y)).run P w = .ok () w := by
                  rw [hC, hD]; exact run_eqGuard_agg w bop t x y C D hcond.2
                have hb := run_eql_of (op := bop) (P := P) (w := w) (t := t) (X := a.eval x) (Y := a.eval y) hcond.1 (by rw [hC, hD]; exact he) (by rw [hC]; simp) (by rw [hC]; simp) (by rw [hC]; simp) (by rw [hC]; simp)
                refine ⟨_, ?_, rfl⟩
                simp only [execOp, Sem.run_bind, hg, Result.andThen_ok, hb]
                rfl
              · cases hv
            · cases hv
          · cases hc
        · cases hc
      · rename_i n e hu
        split at hc
        · rename_i hcond
          split at hc
          · rename_i ks hk
            cases hc
            have r1 := opd_rel (tm := tm) (a := a) hG h1 hT.left
            have r2 := opd_rel (tm := tm) (a := a) hG h2 hT.right
            simp only [pureOp] at hv
            split at hv
            · rename_i xs ys e1 e2
              rw [e1] at r1; rw [e2] at r2
              obtain ⟨C, hC, hxC⟩ := r1
              obtain ⟨D, hD, hyD⟩ := r2
              split at hv
              · rename_i r hr
                simp only [Option.some.injEq] at hv; subst hv
                have he := eqs_run (w := w) hk hxC hyD hr
                have hg : (eqGuard bop t x y (a.eval x) (a.eval y)).run P w = .ok () w := by
                  rw [hC, hD]; exact run_eqGuard_agg w bop t x y C D hcond.2
                have hb := run_eql_of (op := bop) (P := P) (w := w) (t := t) (X := a.eval x) (Y := a.eval y) hcond.1 (by rw [hC, hD]; exact he) (by rw [hC]; simp) (by rw [hC]; simp) (by rw [hC]; simp) (by rw [hC]; simp)
                refine ⟨_, ?_, rfl⟩
                simp only [execOp, Sem.run_bind, hg, Result.andThen_ok, hb]
                rfl
              · cases hv
            · cases hv
          · cases hc
        · cases hc
      · split at hc
        · rename_i hop
          split at hc
          · rename_i k hk
            cases hc
            have r1 := opd_rel (tm := tm) (a := a) hG h1 hT.left
            have r2 := opd_rel (tm := tm) (a := a) hG h2 hT.right
            simp only [pureOp] at hv
            split at hv
            · rename_i r hr
              simp only [Option.some.injEq] at hv; subst hv
              have := ekRun (w := w) hop hk hr r1 r2
              refine ⟨_, ?_, rfl⟩
              simp only [Sem.run_bind] at this
              simp only [execOp, Sem.run_bind, this, Result.andThen_ok]
              rfl
            · cases hv
          · cases hc
        · cases hc
    · cases hc
  | unOp u t x =>
    simp only [compOp0] at hc
    split at hc
    · rename_i y hy
      cases hc
      have r := opd_rel (tm := tm) (a := a) hG hy hT
      simp only [pureOp] at hv
      split at hv
      · rename_i k n e; rw [e] at r
        have r : a.eval x = .int k n := r
        simp at hv; subst hv
        exact ⟨_, by simp [execOp, Op.unary, Op.intArith, r], rfl⟩
      · cases hv
    · rename_i y hy
      cases hc
      have r := opd_rel (tm := tm) (a := a) hG hy hT
      simp only [pureOp] at hv
      split at hv
      · rename_i b e; rw [e] at r
        have r : a.eval x = .bool b := r
        simp at hv; subst hv
        exact ⟨_, by simp [execOp, Op.unary, r], rfl⟩
      · cases hv
    · rename_i y hy
      cases hc
      have r := opd_rel (tm := tm) (a := a) hG hy hT
      simp only [pureOp] at hv
      split at hv
      · rename_i k n e; rw [e] at r
        have r : a.eval x = .int k n := r
        simp [binI] at hv; subst hv
        refine ⟨_, ?_, rfl⟩
        cases hs : k.signed <;> simp [execOp, Op.unary, Op.intBits, r, hs] <;> rfl
      · cases hv
    · cases hc
  | convert s d x =>
    simp only [compOp0] at hc
    split at hc
    · rename_i k1 k2 y hs hd hy
      cases hc
      have r := opd_rel (tm := tm) (a := a) hG hy hT
      simp only [pureOp] at hv
      split at hv
      · rename_i k n e; rw [e] at r
        have r : a.eval x = .int k n := r
        simp at hv; subst hv
        exact ⟨_, by simp [execOp, convert, Conv.intToInt, run_underlying' hs, run_underlying' hd, r], rfl⟩
      · cases hv
    · cases hc
  | slice t x lo hi mx =>
    simp only [compOp0, cSlice] at hc
    split at hc
    · cases hc
    · rename_i hmx
      have hmx : mx = none := by simpa using hmx
      subst hmx
      split at hc
      · rename_i x' lo' hi' h1 h2 h3
        have o2 : ∀ {l : List Nat}, TR φ tm a (l ++ oTmps lo' ++ oTmps hi') → OR φ (lo'.map (·.eval tm)) (lo.map a.eval) := by
          intro l hl
          rcases oopd_rel (tm := tm) (a := a) hG h2 hl.left.right with ⟨rfl, rfl⟩ | ⟨u, v, rfl, rfl, hr⟩
          · exact .inl ⟨rfl, rfl⟩
          · exact .inr ⟨_, _, rfl, rfl, hr⟩
        have o3 : ∀ {l : List Nat}, TR φ tm a (l ++ oTmps lo' ++ oTmps hi') → OR φ (hi'.map (·.eval tm)) (hi.map a.eval) := by
          intro l hl
          rcases oopd_rel (tm := tm) (a := a) hG h3 hl.right with ⟨rfl, rfl⟩ | ⟨u, v, rfl, rfl, hr⟩
          · exact .inl ⟨rfl, rfl⟩
          · exact .inr ⟨_, _, rfl, rfl, hr⟩
        split at hc
        · rename_i n e hu
          split at hc
          · rename_i s hs
            cases hc
            simp [isPure] at hp
          · cases hc
        · rename_i e hu
          split at hc
          · rename_i s hs
            cases hc
            have r := opd_rel (tm := tm) (a := a) hG h1 hT.left.left
            simp only [pureOp] at hv
            split at hv
            · rename_i ad len e' e1
              rw [e1] at r
              split at hv
              · rename_i l h hsb
                split at hv
                · simp at hv; subst hv
                  obtain ⟨hl0, hx⟩ := r
                  subst hl0
                  obtain ⟨hrun, hlh, hh⟩ := sliceB_rel (P := P) (w := w) (cap' := 0) (Nat.le_refl _) hsb (o2 hT) (o3 hT) true
                  have h0 : h = 0 := by omega
                  have l0 : l = 0 := by omega
                  subst h0; subst l0
                  refine ⟨.slice none 0 0, ?_, rfl, rfl⟩
                  simp [execOp, Instr.sliceAt, Instr.slice, run_underlying' hu, hx, hrun, run_sizeOf' hs]
                · rename_i id off
                  split at hv
                  · rename_i he; subst he
                    simp at hv; subst hv
                    obtain ⟨b, n, o', cap, hb, hx, hlc, hfit, ho⟩ := r
                    obtain ⟨hrun, hlh, hh⟩ := sliceB_rel (P := P) (w := w) hlc hsb (o2 hT) (o3 hT) true
                    have hhl : h ≤ len := by omega
                    by_cases hcl : cap = l
                    · subst hcl
                      refine ⟨.slice (some ⟨b, o', none⟩) (h - cap) (cap - cap), ?_, b, n, o', cap - cap, hb, rfl, by omega, ?_, ?_⟩
                      · simp [execOp, Instr.sliceAt, Instr.slice, run_underlying' hu, hx, hrun, run_sizeOf' hs]
                      · have : cap - cap = 0 := by omega
                        rw [this]; omega
                      · right; omega
                    · refine ⟨.slice (some ⟨b, o' + l * e', none⟩) (h - l) (cap - l), ?_, b, n, o' + l * e', cap - l, hb, rfl, by omega, ?_, ?_⟩
                      · simp [execOp, Instr.sliceAt, Instr.slice, run_underlying' hu, hx, hrun, run_sizeOf' hs, hcl, addr_add]
                      · have : l * e' + (cap - l) * e' = cap * e' := by rw [← Nat.add_mul]; congr 1; omega
                        omega
                      · left
                        rcases ho with rfl | ⟨rfl, rfl⟩
                        · rfl
                        · omega
                  · cases hv
              · cases hv
            · cases hv
          · cases hc
        · cases hc
      · cases hc
  | field t x i =>
    simp only [compOp0] at hc
    split at hc
    · rename_i fs y hu hy
      split at hc
      · rename_i f hf
        split at hc
        · rename_i g n hg hn
          cases hc
          have r := opd_rel (tm := tm) (a := a) hG hy hT
          simp only [pureOp] at hv
          split at hv
          · rename_i cs e; rw [e] at r
            obtain ⟨C, hC, hr⟩ := r
            obtain ⟨X, hX, hvX⟩ := part_rel (P := P) (w := w) hg hn hr hv
            exact ⟨X, by simp [execOp, Instr.field, run_underlying' hu, hf, hC, asAgg, hX], hvX⟩
          · cases hv
        · cases hc
      · cases hc
    · cases hc
  | fieldAddr s x i =>
    simp only [compOp0] at hc
    split at hc
    · rename_i fs y hu hy
      split at hc
      · rename_i f hf
        split at hc
        · rename_i n hn
          split at hc
          · cases hc
          · rename_i hn0
            cases hc
            have r := opd_rel (tm := tm) (a := a) hG hy hT
            simp only [pureOp] at hv
            split at hv
            · rename_i id off e; rw [e] at r
              obtain ⟨b, m, hb, hx⟩ := r
              simp at hv; subst hv
              refine ⟨.pointer (some ⟨b, off + f.offset, none⟩), ?_, b, m, hb, rfl⟩
              simp [execOp, Instr.fieldAt, run_underlying' hu, hf, hx, Instr.sureAddr, fieldPlace, run_sizeOf' hn, hn0, addr_add]
            · cases hv
        · cases hc
      · cases hc
    · cases hc
  | indexAddr t x i =>
    simp only [compOp0] at hc
    split at hc
    · rename_i e x' i' hu h1 h2
      split at hc
      · rename_i s hs
        cases hc
        have r1 := opd_rel (tm := tm) (a := a) hG h1 hT.left
        have r2 := opd_rel (tm := tm) (a := a) hG h2 hT.right
        simp only [pureOp] at hv
        split at hv
        · rename_i id off len e' k n e1 e2
          rw [e1] at r1; rw [e2] at r2
          obtain ⟨b, m, o', cap, hb, hx, hlc, hfit, ho⟩ := r1
          have r2 : a.eval i = .int k n := r2
          split at hv
          · rename_i hr
            simp at hv; subst hv
            have ho' : o' = off := by rcases ho with h | h; exact h; omega
            subst ho'
            refine ⟨.pointer (some ⟨b, o' + n.toNat * s, none⟩), ?_, b, m, hb, rfl⟩
            simp [execOp, Instr.indexAt, asIntOf, run_underlying' hu, hx, r2, hr.1, hr.2, run_sizeOf' hs, addr_add]
          · cases hv
        · cases hv
      · cases hc
    · rename_i n e x' i' hu h1 h2
      split at hc
      · rename_i s hs
        cases hc
        have r1 := opd_rel (tm := tm) (a := a) hG h1 hT.left
        have r2 := opd_rel (tm := tm) (a := a) hG h2 hT.right
        simp only [pureOp] at hv
        split at hv
        · rename_i id off k j e1 e2
          rw [e1] at r1; rw [e2] at r2
          obtain ⟨b, m, hb, hx⟩ := r1
          have r2 : a.eval i = .int k j := r2
          split at hv
          · rename_i hr
            simp at hv; subst hv
            refine ⟨.pointer (some ⟨b, off + j.toNat * s, none⟩), ?_, b, m, hb, rfl⟩
            simp [execOp, Instr.indexAt, asIntOf, run_underlying' hu, hx, r2, hr.1, hr.2, run_sizeOf' hs, addr_add, Instr.sureAddr]
          · cases hv
        · cases hv
      · cases hc
    · cases hc
  | index t x i =>
    simp only [compOp0] at hc
    split at hc
    · rename_i n e x' i' hu h1 h2
      split at hc
      · rename_i s g hs hg
        cases hc
        have r1 := opd_rel (tm := tm) (a := a) hG h1 hT.left
        have r2 := opd_rel (tm := tm) (a := a) hG h2 hT.right
        simp only [pureOp] at hv
        split at hv
        · rename_i cs k j e1 e2
          rw [e1] at r1; rw [e2] at r2
          obtain ⟨C, hC, hr⟩ := r1
          have r2 : a.eval i = .int k j := r2
          split at hv
          · rename_i hrange
            obtain ⟨X, hX, hvX⟩ := part_rel (P := P) (w := w) hg hs hr hv
            exact ⟨X, by simp [execOp, Instr.index, asIntOf, run_underlying' hu, hC, r2, hrange.1, hrange.2, run_sizeOf' hs, hX], hvX⟩
          · cases hv
        · cases hv
      · cases hc
    · rename_i x' i' hu h1 h2
      cases hc
      have r1 := opd_rel (tm := tm) (a := a) hG h1 hT.left
      have r2 := opd_rel (tm := tm) (a := a) hG h2 hT.right
      simp only [pureOp] at hv
      split at hv
      · rename_i s k j e1 e2
        rw [e1] at r1; rw [e2] at r2
        obtain ⟨bs, hbs, hmap⟩ := r1
        have r2 : a.eval i = .int k j := r2
        split at hv
        · rename_i hj
          split at hv
          · rename_i u hu'
            simp at hv; subst hv
            rw [← hmap] at hu'
            simp only [List.getElem?_map, Option.map_eq_some_iff] at hu'
            obtain ⟨c, hc', rfl⟩ := hu'
            have hget : bs[j.toNat]? = some c := by
              have h1 : bs.data[j.toNat]? = some c := by simpa using hc'
              have h2 : j.toNat < bs.data.size := by
                rcases Nat.lt_or_ge j.toNat bs.data.size with k | k
                · exact k
                · rw [Array.getElem?_eq_none k] at h1; cases h1
              rw [Array.getElem?_eq_getElem h2] at h1
              have h3 : j.toNat < bs.size := h2
              rw [getElem?_pos bs j.toNat h3]
              exact h1
            exact ⟨.int .u8 c.toNat, by simp [execOp, Instr.index, asIntOf, run_underlying' hu, hbs, r2, hj, hget], rfl⟩
          · cases hv
        · cases hv
      · cases hv
    · cases hc
  | extract x i =>
    simp only [compOp0] at hc
    split at hc
    · rename_i y hy
      cases hc
      have r := opd_rel (tm := tm) (a := a) hG hy hT
      simp only [pureOp] at hv
      split at hv
      · rename_i vs e; rw [e] at r
        obtain ⟨C, hC, hr⟩ := r
        obtain ⟨X, hX, hvX⟩ := hr.get i v hv
        exact ⟨X, by have hX' : C[i]? = some X := by simpa using hX
                     simp [execOp, Instr.extract, hC, hX'], hvX⟩
      · cases hv
    · cases hc
  | makeFunc fn first cap =>
    cases fn with
    | func f =>
      simp only [compOp0] at hc
      split at hc
      · rename_i x c hx hcc
        cases hc
        simp [pureOp] at hv; subst hv
        have r1 := opds_rel (tm := tm) (a := a) hG hx hT.left
        have r2 := opds_rel (tm := tm) (a := a) hG hcc hT.right
        exact ⟨.func (.func f) (first.map a.eval) (cap.map a.eval), by simp [execOp, Instr.makeFunc], _, _, rfl, by simpa using r1, by simpa using r2⟩
      · cases hc
    | _ => simp [compOp0] at hc
  | call c =>
    obtain ⟨callee, args, ats⟩ := c
    cases callee with
    | value f => 
      simp only [compOp0] at hc
      split at hc
      · split at hc
        · cases hc; simp [isPure] at hp
        · split at hc
          · cases hc; simp [isPure] at hp
          · cases hc
      · cases hc
    | invoke r m => simp [compOp0] at hc
    | builtin b => 
      simp only [compOp0] at hc
      exact builtin_pure hc hp hv hG hT
  | alloc t => simp only [compOp0] at hc; split at hc <;> cases hc; simp [isPure] at hp
  | box t x => simp only [compOp0] at hc; split at hc <;> cases hc; simp [isPure] at hp
  | buildSlice t l ps => 
    simp only [compOp0] at hc
    split at hc
    · split at hc
      · split at hc
        · split at hc <;> cases hc; simp [isPure] at hp
        · cases hc
      · cases hc
    · cases hc
  | load t x => simp only [compOp0, cLoad] at hc; split at hc <;> cases hc; simp [isPure] at hp
  | store t x y => simp only [compOp0] at hc; split at hc <;> cases hc; simp [isPure] at hp
  | makeSlice t l c => 
    simp only [compOp0] at hc
    split at hc
    · split at hc
      · split at hc <;> cases hc; simp [isPure] at hp
      · cases hc
    · cases hc
  | lookup t m k ok => 
    simp only [compOp0] at hc
    split at hc
    · split at hc
      · split at hc <;> cases hc; simp [isPure] at hp
      · cases hc
    · cases hc
  | mapUpdate t m k x => 
    simp only [compOp0] at hc
    split at hc
    · split at hc <;> cases hc; simp [isPure] at hp
    · cases hc
  | makeMap t r => cases r <;> simp only [compOp0] at hc <;> cases hc; simp [isPure] at hp
  | defer c =>
    obtain ⟨callee, args, ats⟩ := c
    cases callee with
    | value f => 
      simp only [compOp0] at hc
      split at hc
      · split at hc
        · cases hc; simp [isPure] at hp
        · split at hc
          · cases hc; simp [isPure] at hp
          · cases hc
      · cases hc
    | invoke r m => simp [compOp0] at hc
    | builtin b => simp [compOp0] at hc
  | _ => simp [compOp0] at hc
end AM
