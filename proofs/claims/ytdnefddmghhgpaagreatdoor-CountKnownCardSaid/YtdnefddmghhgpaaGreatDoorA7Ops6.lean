import Derived.Test.YtdnefddmghhgpaaGreatDoorA7Ops5
namespace AM
open Go Go.RowKit
set_option linter.unusedVariables false
set_option linter.unusedSimpArgs false
variable {P : Program} {φ : Phi} {tm : T V} {a : Act} {w : World} {w0 : Base} {σ σ' : St} {G B : Nat}

def isWrite (op : AOp) : Bool := match op with
  | .alloc _ | .box .. | .mkSlice .. | .store .. | .makeSlice .. | .append .. | .appendC .. | .appendZ .. | .copy .. | .clearS .. | .clearM _ | .makeMap | .rangeM _ | .strish _ | .toBytes _ | .mapUpdate .. | .delete .. => true
  | _ => false

theorem write_alloc {dst : Option Tmp} {type : TypeId} {pos : String} {after : Array Edge} {guard : Option (Nat × Bool)} {t : TypeId} {z : List V} (hz : zeroC P t = some z) (hR : Rel G B w0 φ σ w) :
    ∃ b n, (execOp a.eval ⟨dst, .alloc t, type, pos, after, guard⟩).run P w = .ok (.value (.pointer (some ⟨w.heap.size, 0, none⟩))) (w.alloc b) ∧
      Rel G B w0 (φ.upd σ.next (w.heap.size, n)) (σ.new (.cells false 0 z.length z .nil)) (w.alloc b) ∧ φ.le (φ.upd σ.next (w.heap.size, n)) := by
  obtain ⟨X, hX, hr, hs, hXs⟩ := zeroC_spec hz
  have := hR.newZero z.length z X.cells.toList X.cells t (hr φ) hXs (fun i hi => by rw [Nat.mod_eq_of_lt (by simp; omega)]; simp)
  refine ⟨.cells X.cells t, z.length, ?_, this.1, this.2⟩
  simp [execOp, Instr.alloc, hX, newVar, newRow]

theorem does_of {dst : Option Tmp} {type : TypeId} {pos : String} {after : Array Edge} {guard : Option (Nat × Bool)} {b : Builtin} {args : Array Operand} {ats : Array TypeId} {v : V} {R : Result Value}
    (hrun : (execOp a.eval ⟨dst, .call ⟨.builtin b, args, ats⟩, type, pos, after, guard⟩).run P w = R.andThen fun x w' => .ok (.value x) w')
    (h : ∃ X w' φ', R = .ok X w' ∧ φ.le φ' ∧ Rel G B w0 φ' σ' w' ∧ VR φ' v X) : Does P a ⟨dst, .call ⟨.builtin b, args, ats⟩, type, pos, after, guard⟩ G B w0 φ σ' v w := by
  obtain ⟨X, w', φ', rfl, h1, h2, h3⟩ := h
  exact ⟨X, w', φ', .inl hrun, h1, h2, h3⟩

theorem born_erase {M : Array MapEntry} {i : Nat} {bs : List Nat} (hi : i < M.size) (h : M.toList.map (·.born) = bs) : (M.eraseIdxIfInBounds i).toList.map (·.born) = bs.eraseIdx i := by
  subst h
  have e : (M.eraseIdxIfInBounds i).toList = M.toList.eraseIdx i := by simp [Array.eraseIdxIfInBounds, hi]
  rw [e]
  apply List.ext_getElem?
  intro j
  simp only [List.getElem?_map, List.getElem?_eraseIdx]
  split <;> rfl
theorem born_modify {M : Array MapEntry} {i : Nat} {bs : List Nat} {k v : Value} (h : M.toList.map (·.born) = bs) : (M.modify i fun e => { e with key := k, val := v }).toList.map (·.born) = bs := by
  subst h
  rw [Array.toList_modify]
  apply List.ext_getElem?
  intro j
  simp only [List.getElem?_map, List.getElem?_modify]
  cases M.toList[j]? with
  | none => rfl
  | some e => simp only [Option.map_some]; split <;> rfl

/-- an entry leaves a map -/
theorem delV_sound {kk : Kk} {m k : V} {X Y : Value} {ats : Array TypeId} {t kt e ty : TypeId} (hv : delV kk m k σ = some σ') (hat : ats[0]? = some t) (hu : P.underlying t = some (.map kt e)) (hkk : okKey P kt = some kk)
    (r1 : VR φ m X) (r2 : VR φ k Y) (hR : Rel G B w0 φ σ w) : ∃ w', (Builtin.delete_ ats ty #[X, Y]).run P w = .ok (.tuple #[]) w' ∧ Rel G B w0 φ σ' w' := by
  obtain ⟨d, hud, hd⟩ := okKey_spec hkk
  unfold delV at hv
  split at hv
  · rename_i q
    obtain ⟨b, n, hb, hm⟩ := r1
    split at hv
    · rename_i es bs clock ho
      obtain ⟨hB, M, hM, hER, hbs⟩ := hR.mapObj ho hb
      split at hv
      · cases hv
      · rename_i hf
        cases hv
        have hik := mapFind_isKey hf
        have hck := checkKey_run (w := w) hud hd r2 hik M.isEmpty 9999
        rcases mapFind_rel hd r2 hER hf with ⟨_, hff⟩ | ⟨j, v', Y, hcon, _⟩
        · have hfk := findKey_run (w := w) hud hff
          have hset := hR.setMap (m' := M) (clock' := clock) ho hb hER hbs
          exact ⟨_, by simp [Builtin.delete_, hat, run_underlying' hu, hm, run_getObj_map hM, hck, hfk, run_setObj_map hM], hset⟩
        · cases hcon
      · rename_i i v' hf
        cases hv
        have hik := mapFind_isKey hf
        have hck := checkKey_run (w := w) hud hd r2 hik M.isEmpty 9999
        rcases mapFind_rel hd r2 hER hf with ⟨hcon, _⟩ | ⟨j, v2, Y, hcon, hff, hvY, _, hj, _⟩
        · cases hcon
        · simp only [Option.some.injEq, Prod.mk.injEq] at hcon
          obtain ⟨rfl, rfl⟩ := hcon
          have hfk := findKey_run (w := w) hud hff
          have hset := hR.setMap (m' := M.eraseIdxIfInBounds i) (clock' := clock) ho hb (hER.erase (by omega)) (born_erase (by have := hER.1; simp at this; omega) hbs)
          exact ⟨_, by simp [Builtin.delete_, hat, run_underlying' hu, hm, run_getObj_map hM, hck, hfk, run_setObj_map hM], hset⟩
    · cases hv
  · cases hv

theorem builtin_write {dst : Option Tmp} {type : TypeId} {pos : String} {after : Array Edge} {guard : Option (Nat × Bool)} {b : Builtin} {args : Array Operand} {ats : Array TypeId} {op : AOp} {v : V}
    (hc : cBuiltin P b ats args.toList = some op) (hw : isWrite op = true) (hv : writeOp op tm σ = some (v, σ')) (hG : GR P φ) (hT : TR φ tm a op.tmps) (hR : Rel G B w0 φ σ w) :
    Does P a ⟨dst, .call ⟨.builtin b, args, ats⟩, type, pos, after, guard⟩ G B w0 φ σ' v w := by
  obtain ⟨args⟩ := args
  simp only at hc
  unfold cBuiltin at hc
  split at hc
  · repeat' (split at hc)
    all_goals (first | (cases hc; done) | (cases hc; simp [isWrite] at hw))
  · -- append
    rename_i t x y hat
    split at hc
    · rename_i e hu
      split at hc
      · rename_i s bs z x' y' hs hb hz h1 h2
        split at hc
        · rename_i u hu1
          split at hc
          · rename_i k0 hu2
            cases hc
            have r1 := opd_rel (tm := tm) (a := a) hG h1 hT.left
            have r2 := opd_rel (tm := tm) (a := a) hG h2 hT.right
            simp only [writeOp] at hv
            unfold appendZV at hv
            split at hv
            · rename_i xa xl xe kk n e1 e2
              rw [e1] at r1; rw [e2] at r2
              have r2 : a.eval y = .int kk n := r2
              split at hv
              · cases hv
              · rename_i hcond
                split at hv
                · rename_i hn
                  obtain ⟨X, hX, hr, hs', hXs⟩ := zeroC_spec hz
                  have hzs : X.cells.size = s := by rw [hs] at hs'; cases hs'; exact hXs
                  have hspos : 0 < s := by
                    rcases Nat.eq_zero_or_pos s with k | k
                    · exact (hcond (.inl k)).elim
                    · exact k
                  have hxe : xa.isSome = true → xe = s := by
                    intro h; rcases Nat.decEq xe s with k | k
                    · exact (hcond (.inr ⟨k, h⟩)).elim
                    · exact k
                  have hbound : (xl + n.toNat) * bs ≤ maxLenBytes ∧ xl + n.toNat ≤ maxLenBytes := by
                    unfold appendL at hv; split at hv
                    · rename_i hh; exact ⟨hh.1, hh.2.1⟩
                    · cases hv
                  simp only [maxLenBytes] at hbound
                  refine does_of (R := (Builtin.append_ ats type #[a.eval x, a.eval y]).run P w) (by simp [execOp, resolve, invoke, builtin]) ?_
                  refine append_rel P hR hv r1 hxe (zrow_rel (hr φ) n.toNat) (by simp [hzs]) (by omega) hspos ?_
                  intro base sLen sCap hS
                  have hsl : sLen = xl := by
                    cases xa with
                    | none => obtain ⟨h0, hh⟩ := r1; rw [hh] at hS; cases hS; omega
                    | some q => obtain ⟨b0, n0, o0, c0, _, hh, _⟩ := r1; rw [hh] at hS; cases hS; rfl
                  subst hsl
                  refine ⟨grownCap w (sLen + n.toNat) sCap e, Builtin.zeroCells X.cells (grownCap w (sLen + n.toNat) sCap e - (sLen + n.toNat)), e, grownCap_ge _ _ _ _, by rw [size_zeroCells, hzs], ?_⟩
                  rw [hS, r2]
                  have := app_zero (w := w) (kk := kk) (n := n) (k := n.toNat) (base := base) (sLen := sLen) (sCap := sCap) (ty := type) (z := z) hu1 hu2 hs hb (by omega) (by omega) (by omega) hspos hbound.1 hbound.2 hX hat hu
                  rw [this]
                  rfl
                · cases hv
            · cases hv
          · rename_i e2 hu2
            cases hc
            have r1 := opd_rel (tm := tm) (a := a) hG h1 hT.left
            have r2 := opd_rel (tm := tm) (a := a) hG h2 hT.right
            simp only [writeOp] at hv
            unfold appendV at hv
            split at hv
            · rename_i xa xl xe ya yl ye e1 e2'
              rw [e1] at r1; rw [e2'] at r2
              split at hv
              · cases hv
              · rename_i hcond
                have hspos : 0 < s := by
                  rcases Nat.eq_zero_or_pos s with k | k
                  · exact (hcond (.inl k)).elim
                  · exact k
                have hxe : xa.isSome = true → xe = s := by
                  intro h; rcases Nat.decEq xe s with k | k
                  · exact (hcond (.inr ⟨k, h⟩)).elim
                  · exact k
                split at hv
                · rename_i hy0
                  subst hy0
                  simp only [Option.some.injEq, Prod.mk.injEq] at hv
                  obtain ⟨rfl, rfl⟩ := hv
                  -- nothing is appended
                  obtain ⟨i, hi, hsi⟩ := szOf_info hs
                  have hy : ∃ ad c, a.eval y = .slice ad 0 c := by
                    cases ya with
                    | none => exact ⟨_, _, r2.2⟩
                    | some q => obtain ⟨b0, n0, o0, c0, _, hh, _⟩ := r2; exact ⟨_, _, hh⟩
                  obtain ⟨ad, c, hy⟩ := hy
                  have hx : ∃ base cap, a.eval x = .slice base xl cap ∧ xl ≤ cap := by
                    cases xa with
                    | none => obtain ⟨h0, hh⟩ := r1; subst h0; exact ⟨_, _, hh, Nat.le_refl _⟩
                    | some q => obtain ⟨b0, n0, o0, c0, _, hh, hle, _⟩ := r1; exact ⟨_, _, hh, hle⟩
                  obtain ⟨base, cap, hx, hle⟩ := hx
                  have hf : ∀ w : World, (Builtin.firstCells i.size 0 (.slice ad 0 c)).run P w = .ok #[] w := by
                    intro w; cases ad <;> simp [Builtin.firstCells, loadCells, loadCellsFrom]
                  have hrun : (Builtin.append_ ats type #[a.eval x, a.eval y]).run P w = .ok (.slice base xl cap) w := by
                    rw [hx, hy]
                    cases base <;> simp [Builtin.append_, hat, hu1, run_underlying' hu, run_underlying' hu2, Go.sizeOf, typeInfo, hi, Builtin.lenOf, hle, hf, storeCells]
                  refine ⟨.slice base xl cap, w, φ, .inl ?_, Phi.le.refl _, hR, by rw [← hx]; exact r1⟩
                  simp [execOp, resolve, invoke, builtin, hrun]
                · rename_i hy0
                  split at hv
                  · cases hv
                  · rename_i id off
                    split at hv
                    · cases hv
                    · rename_i vs hvs
                      obtain ⟨b0, n0, o0, c0, hb0, hy, hlc, hfit, ho0⟩ := r2
                      have ho : o0 = off := by rcases ho0 with h | ⟨h, _⟩; exact h; exact (hy0 h).elim
                      subst ho
                      obtain ⟨xs, hr, hlen, hcell⟩ := hR.load hvs hb0
                      have hbound : (xl + yl) * bs ≤ maxLenBytes ∧ xl + yl ≤ maxLenBytes := by
                        unfold appendL at hv; split at hv
                        · rename_i hh; exact ⟨hh.1, hh.2.1⟩
                        · cases hv
                      simp only [maxLenBytes] at hbound
                      obtain ⟨X, hX, hrz, hs', hXs⟩ := zeroC_spec hz
                      have hzs : X.cells.size = s := by rw [hs] at hs'; cases hs'; exact hXs
                      refine does_of (R := (Builtin.append_ ats type #[a.eval x, a.eval y]).run P w) (by simp [execOp, resolve, invoke, builtin]) ?_
                      refine append_rel P hR hv r1 hxe hr hlen (by omega) hspos ?_
                      intro base sLen sCap hS
                      have hsl : sLen = xl := by
                        cases xa with
                        | none => obtain ⟨h0, hh⟩ := r1; rw [hh] at hS; cases hS; omega
                        | some q => obtain ⟨b0, n0, o0, c0, _, hh, _⟩ := r1; rw [hh] at hS; cases hS; rfl
                      subst hsl
                      refine ⟨grownCap w (sLen + yl) sCap e, Builtin.zeroCells X.cells (grownCap w (sLen + yl) sCap e - (sLen + yl)), e, grownCap_ge _ _ _ _, by rw [size_zeroCells, hzs], ?_⟩
                      rw [hS, hy]
                      rw [app_slice (w := w) (c := c0) (base := base) (sLen := sLen) (sCap := sCap) (ty := type) hu1 hu2 hs hb hlen hcell hbound.1 hbound.2 hat hu]
                      split
                      · rfl
                      · cases hfc : (Builtin.firstCells s sLen (.slice base sLen sCap)).run P w.drew with
                        | halt hh w' => rfl
                        | ok old w' =>
                          have := firstCells_world hfc
                          subst this
                          have hf := run_firstCells_some (P := P) w.drew s yl ⟨b0, o0, none⟩ yl c0 xs hlen (by simpa using hcell)
                          simp only [Result.andThen_ok, hf, hX]
            · cases hv
          · cases hc
        · cases hc
      · cases hc
    · cases hc
  · -- copy
    rename_i t x y hat
    split at hc
    · rename_i e hu
      split at hc
      · rename_i s x' y' hs h1 h2
        cases hc
        have r1 := opd_rel (tm := tm) (a := a) hG h1 hT.left
        have r2 := opd_rel (tm := tm) (a := a) hG h2 hT.right
        simp only [writeOp] at hv
        split at hv
        · rename_i xa xl xe ya yl ye e1 e2
          rw [e1] at r1; rw [e2] at r2
          have hy : ∃ ad c, a.eval y = .slice ad yl c := by
            cases ya with
            | none => obtain ⟨h0, hh⟩ := r2; subst h0; exact ⟨_, _, hh⟩
            | some q => obtain ⟨b0, n0, o0, c0, _, hh, _⟩ := r2; exact ⟨_, _, hh⟩
          obtain ⟨ad, c, hy⟩ := hy
          have hx : ∃ base cap, a.eval x = .slice base xl cap := by
            cases xa with
            | none => obtain ⟨h0, hh⟩ := r1; subst h0; exact ⟨_, _, hh⟩
            | some q => obtain ⟨b0, n0, o0, c0, _, hh, _⟩ := r1; exact ⟨_, _, hh⟩
          obtain ⟨base, cap, hx⟩ := hx
          -- the source's cells
          have hsrc : ∀ vs, (if min yl xl * s = 0 then some [] else match ya with | none => none | some (id, off) => σ.load id off (min yl xl * s) : Option (List V)) = some vs →
              ∃ xs : List Value, LR φ vs xs ∧ (Builtin.firstCells s (min yl xl) (.slice ad yl c)).run P w = .ok xs.toArray w ∧ xs.length = min yl xl * s := by
            intro vs hvs
            split at hvs
            · rename_i h0
              cases hvs
              refine ⟨[], LR.nil, ?_, by simp [h0]⟩
              cases ad <;> simp [Builtin.firstCells, loadCells, loadCellsFrom, h0]
            · rename_i h0
              split at hvs
              · cases hvs
              · rename_i id off
                obtain ⟨b0, n0, o0, c0, hb0, hh, hlc, hfit, ho0⟩ := r2
                rw [hy] at hh; cases hh
                have hyl : yl ≠ 0 := by intro h; rw [h] at h0; simp at h0
                have ho : o0 = off := by rcases ho0 with h | ⟨h, _⟩; exact h; exact (hyl h).elim
                subst ho
                obtain ⟨xs, hr, hlen, hcell⟩ := hR.load hvs hb0
                exact ⟨xs, hr, run_firstCells_some (P := P) w s (min yl xl) _ yl _ xs hlen hcell, hlen⟩
          split at hv
          · rename_i h0
            simp only [Option.some.injEq, Prod.mk.injEq] at hv
            obtain ⟨rfl, rfl⟩ := hv
            obtain ⟨xs, hr, hf, hlen⟩ := hsrc [] h0
            have : xs = [] := hr
            subst this
            refine ⟨.int .i64 ((min yl xl : Nat) : Int), w, φ, .inl ?_, Phi.le.refl _, hR, rfl⟩
            have hf' : (Builtin.firstCells s (Nat.min yl xl) (.slice ad yl c)).run P w = .ok #[] w := hf
            cases base <;> simp [execOp, resolve, invoke, builtin, Builtin.copy_, hat, run_underlying' hu, hx, hy, Builtin.lenOf, run_sizeOf' hs, hf', storeCells, goInt] <;> rfl
          · rename_i vs id off hne h0
            split at hv
            · rename_i σ2 hst
              simp only [Option.some.injEq, Prod.mk.injEq] at hv
              obtain ⟨rfl, rfl⟩ := hv
              obtain ⟨xs, hr, hf, hlen⟩ := hsrc vs h0
              obtain ⟨b0, n0, o0, c0, hb0, hh, hlc, hfit, ho0⟩ := r1
              rw [hx] at hh; cases hh
              have hxl : xl ≠ 0 := by
                intro h; subst h
                rw [if_pos (by simp)] at h0; cases h0
                exact hne rfl
              have ho : o0 = off := by rcases ho0 with h | ⟨h, _⟩; exact h; exact (hxl h).elim
              subst ho
              obtain ⟨w', hrun, hR'⟩ := hR.store (P := P) hst hb0 hr
              refine ⟨.int .i64 ((min yl xl : Nat) : Int), w', φ, .inl ?_, Phi.le.refl _, hR', rfl⟩
              have hf' : (Builtin.firstCells s (Nat.min yl xl) (.slice ad yl c)).run P w = .ok xs.toArray w := hf
              simp [execOp, resolve, invoke, builtin, Builtin.copy_, hat, run_underlying' hu, hx, hy, Builtin.lenOf, run_sizeOf' hs, hf', hrun, goInt]
            · cases hv
          · cases hv
        · cases hv
      · cases hc
    · cases hc
  · -- clear
    rename_i t x hat
    split at hc
    · rename_i e y hu hy
      split at hc
      · rename_i z hz
        cases hc
        have r := opd_rel (tm := tm) (a := a) hG hy hT
        obtain ⟨X, hX, hr, hs', hXs⟩ := zeroC_spec hz
        simp only [writeOp] at hv
        split at hv
        · rename_i l0 e0 he
          simp only [Option.some.injEq, Prod.mk.injEq] at hv
          obtain ⟨rfl, rfl⟩ := hv
          rw [he] at r
          obtain ⟨_, hx⟩ := r
          refine ⟨.tuple #[], w, φ, .inl ?_, Phi.le.refl _, hR, VR.undef⟩
          simp [execOp, resolve, invoke, builtin, Builtin.clear_, hat, run_underlying' hu, hx]
        · rename_i id off n e0 he
          rw [he] at r
          obtain ⟨b0, n0, o0, c0, hb0, hx, hlc, hfit, ho0⟩ := r
          split at hv
          · rename_i hn0
            simp only [Option.some.injEq, Prod.mk.injEq] at hv
            obtain ⟨rfl, rfl⟩ := hv
            subst hn0
            refine ⟨.tuple #[], w, φ, .inl ?_, Phi.le.refl _, hR, VR.undef⟩
            simp [execOp, resolve, invoke, builtin, Builtin.clear_, hat, run_underlying' hu, hx]
          · rename_i hn0
            split at hv
            · rename_i σ2 hst
              simp only [Option.some.injEq, Prod.mk.injEq] at hv
              obtain ⟨rfl, rfl⟩ := hv
              have ho : o0 = off := by rcases ho0 with h | ⟨h, _⟩; exact h; exact (hn0 h).elim
              subst ho
              obtain ⟨w', hrun, hR'⟩ := hR.store (P := P) hst hb0 (zrow_rel (hr φ) n)
              refine ⟨.tuple #[], w', φ, .inl ?_, Phi.le.refl _, hR', VR.undef⟩
              have hrun' : (storeCells ⟨b0, o0, none⟩ (Builtin.zeroCells X.cells n).toList).run P w = .ok () w' := hrun
              cases n with
              | zero => exact (hn0 rfl).elim
              | succ n => simp [execOp, resolve, invoke, builtin, Builtin.clear_, hat, run_underlying' hu, hx, hX, hrun']
            · cases hv
        · cases hv
      · cases hc
    · rename_i kt e y hu hy
      cases hc
      have r := opd_rel (tm := tm) (a := a) hG hy hT
      simp only [writeOp] at hv
      split at hv
      · rename_i he
        simp only [Option.some.injEq, Prod.mk.injEq] at hv
        obtain ⟨rfl, rfl⟩ := hv
        rw [he] at r
        have hx : a.eval x = .map none := r
        refine ⟨.tuple #[], w, φ, .inl ?_, Phi.le.refl _, hR, VR.undef⟩
        simp [execOp, resolve, invoke, builtin, Builtin.clear_, hat, run_underlying' hu, hx]
      · rename_i q he
        rw [he] at r
        obtain ⟨b0, n0, hb0, hx⟩ := r
        split at hv
        · rename_i es bs clock ho
          simp only [Option.some.injEq, Prod.mk.injEq] at hv
          obtain ⟨rfl, rfl⟩ := hv
          obtain ⟨hB, M, hM, hER, hbs⟩ := hR.mapObj ho hb0
          have hset := hR.setMap (m' := #[]) (clock' := clock) ho hb0 (es' := []) ER.nil rfl
          refine ⟨.tuple #[], _, φ, .inl ?_, Phi.le.refl _, hset, VR.undef⟩
          simp [execOp, resolve, invoke, builtin, Builtin.clear_, hat, run_underlying' hu, hx, run_getObj_map hM, run_setObj_map hM]
        · cases hv
      · cases hv
    · cases hc
  · split at hc
    · cases hc; simp [isWrite] at hw
    · cases hc
  · split at hc
    · cases hc; simp [isWrite] at hw
    · cases hc
  · -- delete
    rename_i t x y hat
    split at hc
    · rename_i kt e x' y' hu h1 h2
      split at hc
      · rename_i kk hkk
        cases hc
        have r1 := opd_rel (tm := tm) (a := a) hG h1 hT.left
        have r2 := opd_rel (tm := tm) (a := a) hG h2 hT.right
        simp only [writeOp] at hv
        split at hv
        · rename_i σ2 hdel
          simp only [Option.some.injEq, Prod.mk.injEq] at hv
          obtain ⟨rfl, rfl⟩ := hv
          obtain ⟨w', hrun, hR'⟩ := delV_sound (P := P) (ty := type) hdel hat hu hkk r1 r2 hR
          refine ⟨.tuple #[], w', φ, .inl ?_, Phi.le.refl _, hR', VR.undef⟩
          simp [execOp, resolve, invoke, builtin, hrun]
        · cases hv
      · cases hc
    · cases hc
  · cases hc

theorem write_sound0 {o : Oper} {op : AOp} {v : V} (hc : compOp0 P o = some op) (hw : isWrite op = true) (hv : writeOp op tm σ = some (v, σ')) (hG : GR P φ) (hT : TR φ tm a op.tmps) (hR : Rel G B w0 φ σ w) : Does P a o G B w0 φ σ' v w := by
  obtain ⟨dst, op', type, pos, after, guard⟩ := o
  unfold Does
  cases op' with
  | alloc t =>
    simp only [compOp0] at hc
    split at hc
    · rename_i z hz
      cases hc
      simp only [writeOp, Option.some.injEq, Prod.mk.injEq] at hv
      obtain ⟨rfl, rfl⟩ := hv
      obtain ⟨b, n, h1, h2, h3⟩ := write_alloc (a := a) (dst := dst) (type := type) (pos := pos) (after := after) (guard := guard) hz hR
      exact ⟨_, _, _, .inl h1, h3, h2, w.heap.size, n, Phi.upd_same _ _ _, rfl⟩
    · cases hc
  | box t x =>
    simp only [compOp0] at hc
    split at hc
    · rename_i n y hn hy
      cases hc
      have r := opd_rel (tm := tm) (a := a) hG hy hT
      simp only [writeOp] at hv
      split at hv
      · rename_i hl
        simp only [Option.some.injEq, Prod.mk.injEq] at hv
        obtain ⟨rfl, rfl⟩ := hv
        have := hR.newCells (y.eval tm).cells (a.eval x).cells.toList [] t r.cells
        refine ⟨_, _, _, .inl ?_, this.2, this.1, w.heap.size, _, Phi.upd_same _ _ _, rfl⟩
        simp [execOp, Instr.box, newVar, newRow]
      · cases hv
    · cases hc
  | buildSlice t len ps =>
    simp only [compOp0] at hc
    split at hc
    · rename_i e hu
      split at hc
      · rename_i s z hs hz
        split at hc
        · rename_i hcond
          split at hc
          · rename_i l hl
            cases hc
            have hpr := parts_rel (tm := tm) (a := a) hG hl hT
            simp only [writeOp] at hv
            split at hv
            · rename_i cs hcs
              simp only [Option.some.injEq, Prod.mk.injEq] at hv
              obtain ⟨rfl, rfl⟩ := hv
              obtain ⟨X, hX, hr, hs', hXs⟩ := zeroC_spec hz
              have hzs : X.cells.size = s := by rw [hs] at hs'; cases hs'; exact hXs
              have hrow := zrow_rel (hr φ) len
              rw [hzs] at hrow
              obtain ⟨D, hD, hcD⟩ := fill_rel hpr hrow hcs
              have hDs := hcD.length
              have hnew := hR.newCells cs D.toList [] e hcD
              have hrun : (Instr.buildSlice t len (ps.map fun p => (p.1, a.eval p.2))).run P w = .ok (.slice (some ⟨w.heap.size, 0, none⟩) len len) (w.alloc (.cells D e)) := by
                have hbig : ¬ (2 ^ 24 < len * s) := by omega
                have hzz : ((if len * s = 0 then pure #[] else do pure (← zeroValue e).cells : Sem (Array Value)).run P w) = .ok (if len * s = 0 then #[] else X.cells) w := by
                  split <;> simp [hX]
                have hgen : ∀ zz : Array Value, (len * s ≠ 0 → zz = X.cells) → (Array.range (len * s)).map (zz[· % zz.size]!) = (Array.range (len * s)).map (fun j => X.cells[j % s]!) := by
                  intro zz hzz
                  by_cases h0 : len * s = 0
                  · rw [h0]; have hr0 : Array.range 0 = #[] := rfl
                    rw [hr0]; simp
                  · rw [hzz h0, hzs]
                have hD' : Instr.fill (fun i => some (i * s, s)) ((Array.range (len * s)).map (fun j => X.cells[j % s]!)) (ps.map fun p => (p.1, a.eval p.2)).toList = some D := by
                  simpa [Array.toList_map] using hD
                by_cases h0 : len * s = 0
                · have hg := hgen #[] (fun h => (h h0).elim)
                  simp only [Instr.buildSlice, Sem.run_bind, run_underlying' hu, Result.andThen_ok, run_sizeOf' hs, gt_iff_lt, hbig, if_false, if_pos h0, Sem.run_pure]
                  rw [hg, hD']
                  simp [newRow]
                · have hg := hgen X.cells (fun _ => rfl)
                  simp only [Instr.buildSlice, Sem.run_bind, run_underlying' hu, Result.andThen_ok, run_sizeOf' hs, gt_iff_lt, hbig, if_false, h0, Sem.run_pure, hX]
                  rw [hg, hD']
                  simp [newRow]
              refine ⟨_, _, _, .inl ?_, hnew.2, hnew.1, w.heap.size, _, 0, len, Phi.upd_same _ _ _, rfl, Nat.le_refl _, ?_, .inl rfl⟩
              · simp only [execOp, Sem.run_bind, hrun, Result.andThen_ok, List.append_nil]
                rfl
              · have hfl : cs.length = (repeatZ z len).length := by
                  have : ∀ {c : List V} {ps} {c'}, fillP c ps = some c' → c'.length = c.length := by
                    intro c ps
                    induction ps generalizing c with
                    | nil => intro c' h; simp [fillP] at h; rw [h]
                    | cons p r ih =>
                      intro c' h
                      obtain ⟨o, sz, x⟩ := p
                      simp only [fillP] at h
                      split at h
                      · rename_i hh; rw [ih h]; simp; omega
                      · cases h
                  exact this hcs
                rw [repeatZ_length] at hfl
                have : z.length = s := by rw [hs] at hs'; cases hs'; rfl
                simp only [List.append_nil, hDs, hfl, this]; omega
            · cases hv
          · cases hc
        · cases hc
      · cases hc
    · cases hc
  | store t x y =>
    simp only [compOp0] at hc
    split at hc
    · rename_i n x' y' hn h1 h2
      cases hc
      have r1 := opd_rel (tm := tm) (a := a) hG h1 hT.left
      have r2 := opd_rel (tm := tm) (a := a) hG h2 hT.right
      simp only [writeOp] at hv
      split at hv
      · rename_i id off e
        rw [e] at r1
        obtain ⟨b, m, hb, hx⟩ := r1
        split at hv
        · rename_i hl
          split at hv
          · rename_i σ2 hst
            simp only [Option.some.injEq, Prod.mk.injEq] at hv
            obtain ⟨rfl, rfl⟩ := hv
            obtain ⟨w', hrun, hR'⟩ := hR.store (P := P) hst hb r2.cells
            refine ⟨Go.undef, w', φ, .inr ⟨?_, rfl⟩, Phi.le.refl _, hR', VR.undef⟩
            have hsz : (a.eval y).cells.size = n := by have := r2.cells.length; simp at this; omega
            simp [execOp, Instr.storeAt, hx, Instr.sureAddr, storeVar, run_sizeOf' hn, hsz, hrun]
          · cases hv
        · cases hv
      · cases hv
    · cases hc
  | makeSlice t l c =>
    simp only [compOp0] at hc
    split at hc
    · rename_i e hu
      split at hc
      · rename_i s bs z l' c' hs hb hz h1 h2
        split at hc
        · rename_i hspos
          cases hc
          have r1 := opd_rel (tm := tm) (a := a) hG h1 hT.left
          have r2 := opd_rel (tm := tm) (a := a) hG h2 hT.right
          simp only [writeOp] at hv
          split at hv
          · rename_i k1 p k2 q e1 e2
            rw [e1] at r1; rw [e2] at r2
            have r1 : a.eval l = .int k1 p := r1
            have r2 : a.eval c = .int k2 q := r2
            split at hv
            · rename_i hcond
              obtain ⟨c1, c2, c3, c4⟩ := hcond
              simp only [Option.some.injEq, Prod.mk.injEq] at hv
              obtain ⟨rfl, rfl⟩ := hv
              obtain ⟨X, hX, hr, hs', hXs⟩ := zeroC_spec hz
              have hzs : X.cells.size = s := by rw [hs] at hs'; cases hs'; exact hXs
              obtain ⟨i, hi, rfl⟩ := bytesOf_info hb
              have hwl : IntKind.i64.wrap p = p := IntWalk.i64_in _ (by omega)
              have hwc : IntKind.i64.wrap q = q := IntWalk.i64_in _ (by omega)
              have t1 : ¬ (q < 0) := by omega
              have t2 : ¬ (281474976710656 < (i.bytes : Int) * q) := by
                have e0 : (i.bytes : Int) * q = ((q.toNat * i.bytes : Nat) : Int) := by
                  rw [Int.natCast_mul, Int.toNat_of_nonneg (by omega), Int.mul_comm]
                rw [e0]; simp only [maxLenBytes] at c3; omega
              have t3 : ¬ (p < 0) := by omega
              have t4 : ¬ (q < p) := by omega
              have hnew := hR.newZero (q.toNat * s) z X.cells.toList ((Array.range (q.toNat * s)).map (fun j => X.cells[j % X.cells.size]!)) e (hr φ) (by simp) (fun i hi => zrow_get _ _ _ hi (by omega))
              have hrun : (Instr.makeSlice t (.int k1 p) (.int k2 q)).run P w = .ok (.slice (some ⟨w.heap.size, 0, none⟩) p.toNat q.toNat) (w.alloc (.cells ((Array.range (q.toNat * s)).map (fun j => X.cells[j % X.cells.size]!)) e)) := by
                by_cases h0 : q.toNat * s = 0
                · simp [Instr.makeSlice, run_underlying' hu, asInt, asIntOf, hwl, hwc, typeInfo, hi, t1, t2, t3, t4, run_sizeOf' hs, h0, newRow]
                  have hr0 : Array.range 0 = #[] := rfl
                  rw [hr0]; simp
                · simp [Instr.makeSlice, run_underlying' hu, asInt, asIntOf, hwl, hwc, typeInfo, hi, t1, t2, t3, t4, run_sizeOf' hs, h0, hX, newRow]
              refine ⟨_, _, _, .inl ?_, hnew.2, hnew.1, w.heap.size, _, 0, q.toNat, Phi.upd_same _ _ _, rfl, by omega, by omega, .inl rfl⟩
              simp only [execOp, r1, r2, Sem.run_bind, hrun, Result.andThen_ok]
              rfl
            · cases hv
          · cases hv
        · cases hc
      · cases hc
    · cases hc
  | makeMap t r =>
    cases r with
    | some r => simp [compOp0] at hc
    | none =>
      simp only [compOp0] at hc
      cases hc
      simp only [writeOp, Option.some.injEq, Prod.mk.injEq] at hv
      obtain ⟨rfl, rfl⟩ := hv
      have hnew := hR.new (.map [] [] 0) (.map #[] 0) 0 rfl (.inr trivial) ⟨hR.B_le, #[], heap_alloc_new w _, ER.nil, rfl⟩
      refine ⟨_, _, _, .inl ?_, hnew.2, hnew.1, w.heap.size, 0, Phi.upd_same _ _ _, rfl⟩
      simp [execOp, Instr.makeMap]
  | mapUpdate t m k x =>
    simp only [compOp0] at hc
    split at hc
    · rename_i kt e m' k' x' hu h1 h2 h3
      split at hc
      · rename_i kk hkk
        cases hc
        have r1 := opd_rel (tm := tm) (a := a) hG h1 hT.left.left
        have r2 := opd_rel (tm := tm) (a := a) hG h2 hT.left.right
        have r3 := opd_rel (tm := tm) (a := a) hG h3 hT.right
        obtain ⟨d, hud, hd⟩ := okKey_spec hkk
        simp only [writeOp] at hv
        split at hv
        · rename_i q e0
          rw [e0] at r1
          obtain ⟨b, n, hb, hm⟩ := r1
          split at hv
          · rename_i es bs clock ho
            obtain ⟨hB, M, hM, hER, hbs⟩ := hR.mapObj ho hb
            split at hv
            · cases hv
            · rename_i hf
              simp only [Option.some.injEq, Prod.mk.injEq] at hv
              obtain ⟨rfl, rfl⟩ := hv
              have hik := mapFind_isKey hf
              have hck := checkKey_run (w := w) hud hd r2 hik false 9999
              rcases mapFind_rel hd r2 hER hf with ⟨_, hff⟩ | ⟨j, v', Y, hcon, _⟩
              · have hfk := findKey_run (w := w) hud hff
                have hset := hR.setMap (m' := M.push { key := a.eval k, val := a.eval x, born := clock }) (clock' := clock + 1) ho hb (hER.push r2 r3) (by rw [Array.toList_push, List.map_append, hbs])
                refine ⟨Go.undef, _, φ, .inr ⟨?_, rfl⟩, Phi.le.refl _, hset, VR.undef⟩
                simp [execOp, Instr.mapUpdate, run_underlying' hu, hm, run_getObj_map hM, hck, hfk, run_setObj_map hM]
              · cases hcon
            · rename_i i v' hf
              simp only [Option.some.injEq, Prod.mk.injEq] at hv
              obtain ⟨rfl, rfl⟩ := hv
              have hik := mapFind_isKey hf
              have hck := checkKey_run (w := w) hud hd r2 hik false 9999
              rcases mapFind_rel hd r2 hER hf with ⟨hcon, _⟩ | ⟨j, v2, Y, hcon, hff, hvY, _, hj, e1, k1, hme, hese, hkeq⟩
              · cases hcon
              · simp only [Option.some.injEq, Prod.mk.injEq] at hcon
                obtain ⟨rfl, rfl⟩ := hcon
                have hfk := findKey_run (w := w) hud hff
                simp only [Nat.sub_zero] at hme hese
                have hme' : M[i]? = some e1 := by simpa using hme
                obtain ⟨e2, he2, hk2, _⟩ := hER.2 i k1 v' hese
                have : e2 = e1 := by rw [hme] at he2; cases he2; rfl
                subst this
                have hsb := sameBits_key hkeq r2 hk2 10000
                have hset := hR.setMap (m' := M.modify i fun e => { e with key := a.eval k, val := a.eval x }) (clock' := clock) ho hb (hER.set hme' r2 r3) (born_modify hbs)
                refine ⟨Go.undef, _, φ, .inr ⟨?_, rfl⟩, Phi.le.refl _, hset, VR.undef⟩
                simp [execOp, Instr.mapUpdate, run_underlying' hu, hm, run_getObj_map hM, hck, hfk, run_setObj_map hM, hme', Instr.keyThatStays, hsb]
          · cases hv
        · cases hv
      · cases hc
    · cases hc
  | call c =>
    obtain ⟨callee, args, ats⟩ := c
    cases callee with
    | value f => 
      simp only [compOp0] at hc
      split at hc
      · split at hc
        · cases hc; simp [isWrite] at hw
        · split at hc
          · cases hc; simp [isWrite] at hw
          · cases hc
      · cases hc
    | invoke r m => simp [compOp0] at hc
    | builtin b => 
      simp only [compOp0] at hc
      exact builtin_write hc hw hv hG hT hR
  | move x => simp only [compOp0] at hc; split at hc <;> cases hc; simp [isWrite] at hw
  | assign x => simp only [compOp0] at hc; split at hc <;> cases hc; simp [isWrite] at hw
  | pick c x y => simp only [compOp0] at hc; split at hc <;> cases hc; simp [isWrite] at hw
  | makeFunc fn x c => cases fn <;> simp only [compOp0] at hc <;> (try (cases hc; done)); split at hc <;> cases hc; simp [isWrite] at hw
  | defer c =>
    obtain ⟨callee, args, ats⟩ := c
    cases callee with
    | value f => 
      simp only [compOp0] at hc
      split at hc
      · split at hc
        · cases hc; simp [isWrite] at hw
        · split at hc
          · cases hc; simp [isWrite] at hw
          · cases hc
      · cases hc
    | invoke r m => simp [compOp0] at hc
    | builtin b => simp [compOp0] at hc
  | load t x => simp only [compOp0, cLoad] at hc; split at hc <;> cases hc; simp [isWrite] at hw
  | binOp op t x y yt =>
    simp only [compOp0, cBin] at hc
    repeat' (split at hc)
    all_goals (first | (cases hc; done) | (cases hc; simp [isWrite] at hw))
  | slice t x lo hi mx =>
    simp only [compOp0, cSlice] at hc
    repeat' (split at hc)
    all_goals (first | (cases hc; done) | (cases hc; simp [isWrite] at hw))
  | build t ps | nilCheck x | unOp u t x | convert s d x | fieldAddr s x i | field t x i | indexAddr t x i | index t x i | lookup t m k ok | extract x i =>
    simp only [compOp0] at hc
    repeat' (split at hc)
    all_goals (first | (cases hc; done) | (cases hc; simp [isWrite] at hw))
  | _ => simp [compOp0] at hc
end AM
