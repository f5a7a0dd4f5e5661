import Derived.Test.YtdnefddmghhgpaaGreatDoorA7Ops2
namespace AM
open Go Go.RowKit
set_option linter.unusedVariables false
set_option linter.unusedSimpArgs false
variable {P : Program} {φ : Phi} {tm : T V} {a : Act} {w : World} {w0 : Base} {σ : St} {G B : Nat}

/-! ### maps -/
def KkIs (d : TypeDesc) : Kk → Prop
  | .int => ∃ k, d = .int k
  | .str => d = .string
  | .bool => d = .bool

theorem okKey_spec {t : TypeId} {kk : Kk} (h : okKey P t = some kk) : ∃ d, P.underlying t = some d ∧ KkIs d kk := by
  unfold okKey at h
  split at h
  · rename_i k hu; cases h; exact ⟨_, hu, k, rfl⟩
  · rename_i hu; cases h; exact ⟨_, hu, rfl⟩
  · rename_i hu; cases h; exact ⟨_, hu, rfl⟩
  · cases h

theorem list_beq_map : ∀ (a b : List UInt8), (a == b) = (a.map (·.toNat) == b.map (·.toNat))
  | [], [] => rfl
  | [], _ :: _ => rfl
  | _ :: _, [] => rfl
  | x :: a, y :: b => by
    have h : (x == y) = (x.toNat == y.toNat) := by
      rw [Bool.eq_iff_iff]; simp [UInt8.toNat_inj]
    simp only [List.cons_beq_cons, List.map_cons, list_beq_map a b, h]

theorem bytes_beq {a b : ByteArray} : (a == b) = (a.data.toList.map (·.toNat) == b.data.toList.map (·.toNat)) := by
  rw [beq_toListBytes, ByteArray.toList_eq, ByteArray.toList_eq, list_beq_map]

theorem keyEq_rel {kk : Kk} {d : TypeDesc} (hd : KkIs d kk) {x y : V} {X Y : Value} {r : Bool} (h : keyEq kk x y = some r) (hx : VR φ x X) (hy : VR φ y Y) : Instr.sameNow d X Y = some r := by
  unfold keyEq at h
  split at h
  · rename_i k n k' n'
    obtain ⟨k0, rfl⟩ := hd
    have hx : X = .int k n := hx
    have hy : Y = .int k' n' := hy
    subst hx; subst hy
    simpa [Instr.sameNow] using h
  · have hd : d = .string := hd
    subst hd
    obtain ⟨bx, rfl, rfl⟩ := hx
    obtain ⟨bY, rfl, rfl⟩ := hy
    simp only [Instr.sameNow, Option.some.injEq] at h ⊢
    rw [bytes_beq]; exact h
  · rename_i p q
    have hd : d = .bool := hd
    subst hd
    have hx : X = .bool p := hx
    have hy : Y = .bool q := hy
    subst hx; subst hy
    simpa [Instr.sameNow] using h
  · cases h

theorem ER.nil : ER φ [] [] := ⟨rfl, by simp⟩
theorem ER.cons_inv {k v : V} {r : List (V × V)} {m : List MapEntry} (h : ER φ ((k, v) :: r) m) : ∃ e s, m = e :: s ∧ VR φ k e.key ∧ VR φ v e.val ∧ ER φ r s := by
  obtain ⟨hl, hg⟩ := h
  cases m with
  | nil => simp at hl
  | cons e s =>
    obtain ⟨e', he, h1, h2⟩ := hg 0 k v rfl
    simp at he; subst he
    exact ⟨e, s, rfl, h1, h2, by simpa using hl, fun i a b hi => by simpa using hg (i + 1) a b (by simpa using hi)⟩

theorem mapFind_rel {kk : Kk} {d : TypeDesc} (hd : KkIs d kk) {x : V} {X : Value} (hx : VR φ x X) : ∀ {es : List (V × V)} {m : List MapEntry} {i : Nat} {r : Option (Nat × V)}, ER φ es m → mapFind kk x es i = some r →
    (r = none ∧ Instr.findNow d X m i = some none) ∨ ∃ j v Y, r = some (j, v) ∧ Instr.findNow d X m i = some (some (j, Y)) ∧ VR φ v Y ∧ i ≤ j ∧ j < i + es.length ∧ ∃ e k, m[j - i]? = some e ∧ es[j - i]? = some (k, v) ∧ keyEq kk x k = some true
  | [], m, i, r, he, h => by
    have : m = [] := by cases m with | nil => rfl | cons a b => have := he.1; simp at this
    subst this
    simp only [mapFind] at h
    split at h
    · cases h; exact .inl ⟨rfl, rfl⟩
    · cases h
  | (k, v) :: es, m, i, r, he, h => by
    obtain ⟨e, s, rfl, hk, hv, hr⟩ := he.cons_inv
    simp only [mapFind] at h
    split at h
    · rename_i hke
      cases h
      right
      refine ⟨i, v, e.val, rfl, ?_, hv, Nat.le_refl _, by simp, e, k, by simp, by simp, hke⟩
      simp [Instr.findNow, keyEq_rel hd hke hx hk]
    · rename_i hke
      have e1 : Instr.findNow d X (e :: s) i = Instr.findNow d X s (i + 1) := by simp [Instr.findNow, keyEq_rel hd hke hx hk]
      rw [e1]
      rcases mapFind_rel hd hx hr h with ⟨h1, h2⟩ | ⟨j, v', Y, h1, h2, h3, h4, h5, e', k', h6, h7, h8⟩
      · exact .inl ⟨h1, h2⟩
      · right
        refine ⟨j, v', Y, h1, h2, h3, by omega, by simp; omega, e', k', ?_, ?_, h8⟩
        · rw [show j - i = (j - (i + 1)) + 1 by omega]; simpa using h6
        · rw [show j - i = (j - (i + 1)) + 1 by omega]; simpa using h7
    · cases h

theorem mapFind_isKey {kk : Kk} {x : V} : ∀ {es : List (V × V)} {i : Nat} {r : Option (Nat × V)}, mapFind kk x es i = some r → isKey kk x = true
  | [], i, r, h => by simp only [mapFind] at h; split at h; assumption; cases h
  | (k, v) :: es, i, r, h => by
    simp only [mapFind] at h
    split at h
    · rename_i hk; unfold keyEq at hk; split at hk <;> simp_all [isKey]
    · rename_i hk; unfold keyEq at hk; split at hk <;> simp_all [isKey]
    · cases h

theorem checkKey_run {kk : Kk} {t : TypeId} {d : TypeDesc} (hu : P.underlying t = some d) (hd : KkIs d kk) {x : V} {X : Value} (hx : VR φ x X) (hk : isKey kk x = true) (b : Bool) (n : Nat) :
    (Instr.checkKey b (n + 1) t X).run P w = .ok () w := by
  unfold isKey at hk
  split at hk
  · rename_i k m
    obtain ⟨k0, rfl⟩ := hd
    have hx : X = .int k m := hx
    subst hx
    simp [Instr.checkKey, run_underlying' hu]
  · have hd : d = .string := hd
    subst hd
    obtain ⟨bx, rfl, rfl⟩ := hx
    simp [Instr.checkKey, run_underlying' hu]
  · rename_i p
    have hd : d = .bool := hd
    subst hd
    have hx : X = .bool p := hx
    subst hx
    simp [Instr.checkKey, run_underlying' hu]
  · cases hk

theorem findKey_run {t : TypeId} {d : TypeDesc} (hu : P.underlying t = some d) {X : Value} {m : List MapEntry} {r : Option (Nat × Value)} (h : Instr.findNow d X m 0 = some r) :
    (Instr.findKey t X m).run P w = .ok r w := by
  simp [Instr.findKey, run_underlying' hu, h]

theorem Rel.mapObj (h : Rel G B w0 φ σ w) {r b n : Nat} {es : List (V × V)} {bs : List Nat} {ck : Nat} (ho : σ.objs.get r = some (.map es bs ck)) (ha : φ r = some (b, n)) :
    B ≤ b ∧ ∃ m, w.heap[b]? = some (.map m ck) ∧ ER φ es m.toList ∧ m.toList.map (·.born) = bs := h.obj r _ b n ho ha

theorem run_getObj_map {b : Nat} {m : Array MapEntry} {clock : Nat} (h : w.heap[b]? = some (.map m clock)) : (getObj b).run P w = .ok (.map m clock) w := by
  simp only [getObj, Sem.run, h]

theorem read_sound0 {o : Oper} {op : AOp} {v : V} (hc : compOp0 P o = some op) (hp : isRead op = true) (hv : readOp op tm σ = some v) (hG : GR P φ) (hT : TR φ tm a op.tmps) (hR : Rel G B w0 φ σ w) : Tells P a o φ v w := by
  obtain ⟨dst, op', type, pos, after, guard⟩ := o
  unfold Tells
  cases op' with
  | load t x =>
    simp only [compOp0, cLoad] at hc
    split at hc
    · rename_i g n y hg hn hy
      cases hc
      have r := opd_rel (tm := tm) (a := a) hG hy hT
      simp only [readOp] at hv
      split at hv
      · rename_i id off e
        rw [e] at r
        obtain ⟨b, m, hb, hx⟩ := r
        cases g with
        | true =>
          simp only [if_true] at hv
          split at hv
          · rename_i vs hvs
            simp at hv; subst hv
            obtain ⟨xs, hr, hlen, hcell⟩ := hR.load hvs hb
            refine ⟨.agg xs.toArray, ?_, VR.agg (by simpa using hr)⟩
            have hl := run_loadCells_list (P := P) w ⟨b, off, none⟩ xs hcell
            rw [hlen] at hl
            simp [execOp, Instr.loadAt, Instr.sureAddr, hx, loadVar, run_isAgg' hg, run_sizeOf' hn, hl]
          · cases hv
        | false =>
          simp only [Bool.false_eq_true, if_false] at hv
          obtain ⟨X, hX, hvX⟩ := hR.cell hv hb
          exact ⟨X, by simp [execOp, Instr.loadAt, Instr.sureAddr, hx, loadVar, run_isAgg' hg, hX], hvX⟩
      · cases hv
    · cases hc
  | slice t x lo hi mx =>
    simp only [compOp0, cSlice] at hc
    split at hc
    · cases hc
    · rename_i hmx
      have hmx : mx = none := by simpa using hmx
      subst hmx
      split at hc
      · rename_i x' lo' hi' h1 h2 h3
        have o2 : ∀ {l : List Nat}, TR φ tm a (l ++ oTmps lo' ++ oTmps hi') → OR φ (lo'.map (·.eval tm)) (lo.map a.eval) := by
          intro l hl
          rcases oopd_rel (tm := tm) (a := a) hG h2 hl.left.right with ⟨rfl, rfl⟩ | ⟨u, v, rfl, rfl, hr⟩
          · exact .inl ⟨rfl, rfl⟩
          · exact .inr ⟨_, _, rfl, rfl, hr⟩
        have o3 : ∀ {l : List Nat}, TR φ tm a (l ++ oTmps lo' ++ oTmps hi') → OR φ (hi'.map (·.eval tm)) (hi.map a.eval) := by
          intro l hl
          rcases oopd_rel (tm := tm) (a := a) hG h3 hl.right with ⟨rfl, rfl⟩ | ⟨u, v, rfl, rfl, hr⟩
          · exact .inl ⟨rfl, rfl⟩
          · exact .inr ⟨_, _, rfl, rfl, hr⟩
        split at hc
        · rename_i n e hu
          split at hc
          · rename_i s hs
            cases hc
            have r := opd_rel (tm := tm) (a := a) hG h1 hT.left.left
            simp only [readOp] at hv
            split at hv
            · rename_i id off e1
              rw [e1] at r
              obtain ⟨b, m, hb, hx⟩ := r
              split at hv
              · rename_i l h hsb
                split at hv
                · rename_i hcond
                  obtain ⟨h1', h2'⟩ := hcond
                  split at hv
                  · rename_i ro g k z t' ho
                    split at hv
                    · rename_i hfit
                      simp at hv; subst hv
                      obtain ⟨hrun, _, _⟩ := sliceB_rel (P := P) (w := w) (Nat.le_refl _) hsb (o2 hT) (o3 hT) false
                      subst h1'; subst h2'
                      obtain ⟨C, E, fz, d1, d2, d3, d4, d5⟩ := hR.obj id _ b m ho hb
                      refine ⟨.slice (some ⟨b, off, none⟩) h h, ?_, b, m, off, h, hb, rfl, Nat.le_refl _, by omega, .inl rfl⟩
                      simp [execOp, Instr.sliceAt, run_underlying' hu, hx, Instr.sureAddr, hrun, run_sizeOf' hs, addr_add]
                    · cases hv
                  · cases hv
                · cases hv
              · cases hv
            · cases hv
          · cases hc
        · split at hc
          · cases hc; simp [isRead] at hp
          · cases hc
        · cases hc
      · cases hc
  | lookup t m k ok =>
    simp only [compOp0] at hc
    split at hc
    · rename_i kt e m' k' hu h1 h2
      split at hc
      · rename_i z hz
        split at hc
        · rename_i kk hkk
          cases hc
          have r1 := opd_rel (tm := tm) (a := a) hG h1 hT.left
          have r2 := opd_rel (tm := tm) (a := a) hG h2 hT.right
          obtain ⟨d, hud, hd⟩ := okKey_spec hkk
          obtain ⟨X, hX, hzX⟩ := run_zeroValue' hz
          have hzr := toV_rel φ X z hzX
          simp only [readOp] at hv
          have key : ∀ es, (match Opd.eval tm m' with
              | .map none => some []
              | .map (some r) => match σ.objs.get r with | some (.map es bs ck) => some es | _ => none
              | _ => none : Option (List (V × V))) = some es → ∃ M : Array MapEntry, ER φ es M.toList ∧
                ((a.eval m = .map none ∧ M = #[]) ∨ ∃ b clock, a.eval m = .map (some b) ∧ (getObj b).run P w = .ok (.map M clock) w) := by
            intro es hes
            split at hes
            · rename_i e0
              rw [e0] at r1
              have r1 : a.eval m = .map none := r1
              cases hes
              exact ⟨#[], ER.nil, .inl ⟨r1, rfl⟩⟩
            · rename_i r e0
              rw [e0] at r1
              obtain ⟨b, n, hb, hm⟩ := r1
              split at hes
              · rename_i es' bs ck ho
                cases hes
                obtain ⟨_, M, hM, hER, _⟩ := hR.mapObj ho hb
                exact ⟨M, hER, .inr ⟨b, ck, hm, run_getObj_map hM⟩⟩
              · cases hes
            · cases hes
          split at hv
          · cases hv
          · rename_i es hes
            obtain ⟨M, hER, hmap⟩ := key es hes
            split at hv
            · cases hv
            · rename_i r hr
              have hik := mapFind_isKey hr
              have hck := fun b => checkKey_run (w := w) hud hd r2 hik b 9999
              rcases mapFind_rel hd r2 hER hr with ⟨rfl, hf⟩ | ⟨j, v', Y, rfl, hf, hvY, _⟩
              · simp only [Option.some.injEq] at hv; subst hv
                have hfk := findKey_run (w := w) hud hf
                refine ⟨if ok then .tuple #[X, .bool false] else X, ?_, ?_⟩
                · rcases hmap with ⟨hm, rfl⟩ | ⟨b, clock, hm, hg⟩ <;>
                    simp [execOp, Instr.lookup, run_underlying' hu, hm, hck, hX, *]
                · cases ok
                  · exact hzr
                  · exact ⟨_, rfl, LR.cons hzr (LR.cons rfl LR.nil)⟩
              · simp only [Option.some.injEq] at hv; subst hv
                have hfk := findKey_run (w := w) hud hf
                refine ⟨if ok then .tuple #[Y, .bool true] else Y, ?_, ?_⟩
                · rcases hmap with ⟨hm, rfl⟩ | ⟨b, clock, hm, hg⟩ <;>
                    simp [execOp, Instr.lookup, run_underlying' hu, hm, hck, hX, *]
                · cases ok
                  · exact hvY
                  · exact ⟨_, rfl, LR.cons hvY (LR.cons rfl LR.nil)⟩
        · cases hc
      · cases hc
    · cases hc
  | call c =>
    obtain ⟨callee, args, ats⟩ := c
    cases callee with
    | value f => 
      simp only [compOp0] at hc
      split at hc
      · split at hc
        · cases hc; simp [isRead] at hp
        · split at hc
          · cases hc; simp [isRead] at hp
          · cases hc
      · cases hc
    | invoke r m => simp [compOp0] at hc
    | builtin b =>
      simp only [compOp0] at hc
      obtain ⟨args⟩ := args
      simp only at hc
      unfold cBuiltin at hc
      split at hc
      · rename_i t x hat
        split at hc
        · cases hc; simp [isRead] at hp
        · cases hc; simp [isRead] at hp
        · rename_i kt e y hu hy
          cases hc
          have r := opd_rel (tm := tm) (a := a) hG hy hT
          simp only [readOp] at hv
          split at hv
          · rename_i e0
            rw [e0] at r
            have r : a.eval x = .map none := r
            simp at hv; subst hv
            exact ⟨.int .i64 (0 : Nat), by simp [execOp, resolve, invoke, builtin, Builtin.len_, hat, run_underlying' hu, goInt, r], rfl⟩
          · rename_i q e0
            rw [e0] at r
            obtain ⟨b, n, hb, hm⟩ := r
            split at hv
            · rename_i es bs ck ho
              simp at hv; subst hv
              obtain ⟨_, M, hM, hER, _⟩ := hR.mapObj ho hb
              have hl : M.size = es.length := by have := hER.1; simpa using this
              exact ⟨.int .i64 M.size, by simp [execOp, resolve, invoke, builtin, Builtin.len_, hat, run_underlying' hu, goInt, hm, run_getObj_map hM], by simp [VR, hl]⟩
            · cases hv
          · cases hv
        · cases hc
      all_goals (first | (cases hc; done) | skip)
      all_goals (repeat' (split at hc))
      all_goals (first | (cases hc; done) | (cases hc; simp [isRead] at hp))
  | move x => simp only [compOp0] at hc; split at hc <;> cases hc; simp [isRead] at hp
  | assign x => simp only [compOp0] at hc; split at hc <;> cases hc; simp [isRead] at hp
  | pick c x y => simp only [compOp0] at hc; split at hc <;> cases hc; simp [isRead] at hp
  | makeMap t r => cases r <;> simp only [compOp0] at hc <;> cases hc; simp [isRead] at hp
  | makeFunc fn x c => cases fn <;> simp only [compOp0] at hc <;> (try (cases hc; done)); split at hc <;> cases hc; simp [isRead] at hp
  | defer c =>
    obtain ⟨callee, args, ats⟩ := c
    cases callee with
    | value f => 
      simp only [compOp0] at hc
      split at hc
      · split at hc
        · cases hc; simp [isRead] at hp
        · split at hc
          · cases hc; simp [isRead] at hp
          · cases hc
      · cases hc
    | invoke r m => simp [compOp0] at hc
    | builtin b => simp [compOp0] at hc
  | binOp op t x y yt =>
    simp only [compOp0, cBin] at hc
    repeat' (split at hc)
    all_goals (first | (cases hc; done) | (cases hc; simp [isRead] at hp))
  | alloc t | box t x | build t ps | buildSlice t l ps | store t x y | nilCheck x | unOp u t x | convert s d x | makeSlice t l c | fieldAddr s x i | field t x i | indexAddr t x i | index t x i | mapUpdate t m k x | extract x i =>
    simp only [compOp0] at hc
    repeat' (split at hc)
    all_goals (first | (cases hc; done) | (cases hc; simp [isRead] at hp))
  | _ => simp [compOp0] at hc
end AM
