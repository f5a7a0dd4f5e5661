import Derived.Test.YtdnefddmghhgpaaGreatDoorA7Ops6
import Derived.Laws.IdiomStrings
import Derived.Maps.RangeRun
import Derived.LaidEql
namespace AM
open Go Go.RowKit
set_option linter.unusedVariables false
set_option linter.unusedSimpArgs false
variable {P : Program} {φ : Phi} {tm : T V} {a : Act} {w : World} {w0 : Base} {σ σ' : St} {G B : Nat}

/-- the operations of the second kind -/
def isX : AOp → Bool
  | .rangeM _ | .nextM _ | .entryM _ | .toStr _ | .strish _ | .toBytes _ | .sBin .. | .slice3 .. | .mkIface .. | .mval .. | .nilCheckM .. | .invoke .. | .deferD .. | .eqP .. | .sliceOfC .. | .appendC .. => true
  | _ => false

theorem compX_isX {o : Oper} {op : AOp} (h : compX P o = some op) : isX op = true := by
  unfold compX at h
  repeat' (split at h)
  all_goals (first | (cases h; done) | (cases h; rfl))

theorem compM_isX {ops : Array Oper} {o : Oper} {op : AOp} (h : compM P ops o = some op) : isX op = true := by
  unfold compM at h
  repeat' (split at h)
  all_goals (first | (cases h; done) | (cases h; rfl))

theorem compC_isX {o : Oper} {op : AOp} (h : compC P o = some op) : isX op = true := by
  unfold compC at h
  repeat' (split at h)
  all_goals (first | (cases h; done) | (cases h; rfl))

/-- compiled, but not by the first compiler -/
def CompY (P : Program) (ops : Array Oper) (o : Oper) (op : AOp) : Prop := compM P ops o = some op ∨ compC P o = some op ∨ compX P o = some op

theorem compY_isX {ops : Array Oper} {o : Oper} {op : AOp} (h : CompY P ops o op) : isX op = true := by
  rcases h with h | h | h
  · exact compM_isX h
  · exact compC_isX h
  · exact compX_isX h

theorem compOp_spec {ops : Array Oper} {o : Oper} {op : AOp} (h : compOp P ops o = some op) : compOp0 P o = some op ∨ CompY P ops o op := by
  unfold compOp at h
  split at h
  · rename_i a ha; cases h; exact .inr (.inl ha)
  · split at h
    · rename_i a ha; cases h; exact .inr (.inr (.inl ha))
    · split at h
      · rename_i a ha; cases h; exact .inl ha
      · exact .inr (.inr (.inr h))

theorem isByte_spec {e : TypeId} (h : isByte P e = true) : P.underlying e = some (.int .u8) := by
  unfold isByte at h
  split at h
  · assumption
  · cases h

theorem findB_spec {b : Nat} : ∀ {bs : List Nat} {es : List (V × V)} {M : List MapEntry} {k v : V}, M.map (·.born) = bs → ER φ es M → findB b bs es = some (k, v) → ∃ e, M.find? (·.born == b) = some e ∧ VR φ k e.key ∧ VR φ v e.val
  | [], es, M, k, v, hb, hE, h => by simp [findB] at h
  | c :: r, [], M, k, v, hb, hE, h => by simp [findB] at h
  | c :: r, x :: s, [], k, v, hb, hE, h => by simp at hb
  | c :: r, x :: s, e :: M, k, v, hb, hE, h => by
    simp at hb
    obtain ⟨hb1, hb2⟩ := hb
    obtain ⟨x1, x2⟩ := x
    obtain ⟨e', he', h1, h2⟩ := hE.2 0 x1 x2 rfl
    simp at he'; subst he'
    simp only [findB] at h
    split at h
    · rename_i hcb
      simp at h; obtain ⟨rfl, rfl⟩ := h
      refine ⟨e, ?_, h1, h2⟩
      rw [List.find?_cons_of_pos (by simp [hb1, hcb])]
    · rename_i hcb
      obtain ⟨e2, h3, h4⟩ := findB_spec hb2 ⟨by have := hE.1; simpa using this, fun i k v hi => by simpa using hE.2 (i + 1) k v (by simpa using hi)⟩ h
      refine ⟨e2, ?_, h4⟩
      rw [List.find?_cons_of_neg (by simp [hb1, hcb])]; exact h3

/-! ### strings -/
theorem sameN_eq' : ∀ (x y : List Nat), sameN x y = true → x = y
  | [], y, h => by cases y <;> simp_all [sameN]
  | a :: r, y, h => by
    cases y with
    | nil => simp [sameN] at h
    | cons c s =>
      simp only [sameN, Bool.and_eq_true, beq_iff_eq] at h
      rw [h.1, sameN_eq' r s h.2]
theorem sameN_refl : ∀ (x : List Nat), sameN x x = true
  | [] => rfl
  | a :: r => by simp [sameN, sameN_refl r]

theorem bytes_list (x : ByteArray) : x.toList = x.data.toList := by
  have key : ∀ (n i : Nat) (acc : List UInt8), x.size - i = n → ByteArray.toList.loop x i acc = acc.reverse ++ x.data.toList.drop i := by
    intro n
    induction n with
    | zero =>
      intro i acc h
      unfold ByteArray.toList.loop
      rw [if_neg (by omega)]
      have : x.data.toList.length ≤ i := by simp; have : x.size = x.data.size := rfl; omega
      rw [List.drop_eq_nil_of_le this]; simp
    | succ n ih =>
      intro i acc h
      unfold ByteArray.toList.loop
      have hi : i < x.size := by omega
      rw [if_pos hi, ih (i + 1) _ (by omega)]
      have hl : i < x.data.toList.length := by simpa using hi
      rw [List.drop_eq_getElem_cons hl]
      have : x.get! i = x.data.toList[i] := by
        have hd : i < x.data.size := hi
        simp only [ByteArray.get!, getElem!_pos x.data i hd, Array.getElem_toList]
      rw [this]; simp
  have := key x.size 0 [] (by omega)
  unfold ByteArray.toList
  rw [this]; simp

theorem bytes_eq_iff (x y : ByteArray) : (x.toList == y.toList) = sameN (x.data.toList.map (·.toNat)) (y.data.toList.map (·.toNat)) := by
  rw [bytes_list, bytes_list]
  have inj : ∀ (a b : List UInt8), a.map (·.toNat) = b.map (·.toNat) → a = b := by
    intro a
    induction a with
    | nil => intro b h; cases b <;> simp_all
    | cons x r ih =>
      intro b h
      cases b with
      | nil => simp at h
      | cons y s =>
        simp only [List.map_cons, List.cons.injEq] at h
        rw [UInt8.toNat_inj.1 h.1, ih s h.2]
  cases h : sameN (x.data.toList.map (·.toNat)) (y.data.toList.map (·.toNat)) with
  | true => rw [inj _ _ (sameN_eq' _ _ h)]; simp
  | false =>
    rw [beq_eq_false_iff_ne]
    intro e
    rw [e, sameN_refl] at h; cases h

theorem strBin_run {op : BinOp} {t : TypeId} {x y : List Nat} {X Y : ByteArray} {v : V} (hv : strBin (bn op) x y = some v) (hx : X.data.toList.map (·.toNat) = x) (hy : Y.data.toList.map (·.toNat) = y) (w : World) :
    ∃ Z, (Op.stringOp op X Y).run P w = .ok Z w ∧ VR φ v Z := by
  subst hx; subst hy
  cases op <;> simp only [bn, strBin] at hv
  case add =>
    split at hv
    · rename_i h
      cases hv
      simp only [List.length_map, Array.length_toList] at h
      have h1 : X.data.size = X.size := rfl
      have h2 : Y.data.size = Y.size := rfl
      refine ⟨.string (X ++ Y), ?_, X ++ Y, rfl, by simp⟩
      unfold Op.stringOp
      simp only
      rw [if_neg (by simp [IntKind.max, IntKind.bits]; omega)]
      rfl
    · cases hv
  case eql => cases hv; exact ⟨.bool _, rfl, by simp only [VR, bytes_eq_iff]⟩
  case neq => cases hv; exact ⟨.bool _, rfl, by simp only [VR, bytes_eq_iff]⟩
  all_goals cases hv

theorem bytesV_spec : ∀ {vs : List V} {s : List Nat} {xs : List Value}, bytesV vs = some s → LR φ vs xs → ∃ l : List UInt8, xs = (l.map fun b => Value.int .u8 b.toNat) ∧ l.map (·.toNat) = s
  | [], s, xs, h, hL => by simp [bytesV] at h; subst h; cases hL; exact ⟨[], rfl, rfl⟩
  | v :: r, s, xs, h, hL => by
    obtain ⟨x, q, rfl, hx, hq⟩ := hL
    cases v with
    | int k n =>
      cases k <;> simp only [bytesV] at h <;> try (cases h; done)
      split at h
      · rename_i hn
        split at h
        · rename_i s' hs
          cases h
          obtain ⟨l, rfl, hl⟩ := bytesV_spec hs hq
          have hx : x = .int .u8 n := hx
          subst hx
          refine ⟨UInt8.ofNat n.toNat :: l, ?_, ?_⟩
          · have : ((UInt8.ofNat n.toNat).toNat : Int) = n := by simp; omega
            rw [List.map_cons, this]
          · have : (UInt8.ofNat n.toNat).toNat = n.toNat := by simp; omega
            rw [List.map_cons, this, hl]
        · cases h
      · cases h
    | _ => simp [bytesV] at h

theorem boundB_run {x : V} {X : Value} {y m : Nat} (h : boundB x y = some m) (hx : VR φ x X) (y' : Nat) (hy : y ≤ y') (c : BoundsCode) (w : World) : (Instr.sliceBound X y' c).run P w = .ok m w ∧ m ≤ y := by
  unfold boundB at h
  split at h
  · rename_i k i
    split at h
    · rename_i hi
      cases h
      have hx : X = .int k i := hx
      subst hx
      refine ⟨?_, by omega⟩
      simp only [Instr.sliceBound, asIntOf, Sem.run_bind, Sem.run_pure, Result.andThen_ok]
      rw [if_pos (by omega)]; rfl
    · cases h
  · cases h

theorem pureX {o : Oper} {op : AOp} {v : V} (hc : compX P o = some op) (hp : isPure op = true) (hv : pureOp op tm = some v) (hG : GR P φ) (hT : TR φ tm a op.tmps) : Tells P a o φ v w := by
  obtain ⟨dst, op', type, pos, after, guard⟩ := o
  unfold compX at hc
  split at hc
  · split at hc <;> cases hc; simp [isPure] at hp
  · split at hc <;> cases hc; simp [isPure] at hp
  · split at hc <;> cases hc; simp [isPure] at hp
  · repeat' (split at hc)
    all_goals (first | (cases hc; done) | (cases hc; simp [isPure] at hp))
  · rename_i bop t x y yt heq
    simp only at heq
    subst heq
    split at hc
    · rename_i x' y' hu h1 h2
      cases hc
      have r1 := opd_rel (tm := tm) (a := a) hG h1 hT.left
      have r2 := opd_rel (tm := tm) (a := a) hG h2 hT.right
      simp only [pureOp] at hv
      split at hv
      · rename_i s1 s2 e1 e2
        rw [e1] at r1; rw [e2] at r2
        obtain ⟨X, hX, hx⟩ := r1
        obtain ⟨Y, hY, hy⟩ := r2
        obtain ⟨Z, hZ, hr⟩ := strBin_run (P := P) (φ := φ) (t := t) hv hx hy w
        refine ⟨Z, ?_, hr⟩
        have hg : (eqGuard bop t x y (a.eval x) (a.eval y)).run P w = .ok () w := eqGuard_plain bop t x y _ _ (by rw [hX]; simp) (by rw [hX]; simp)
        rw [hX, hY] at hg
        simp [execOp, hg, binOp, hX, hY, hZ]
      · cases hv
    · cases hc
  · rename_i t x lo hi mx heq
    simp only at heq
    subst heq
    split at hc
    · rename_i e x' lo' hi' mx' hu h1 h2 h3 h4
      split at hc
      · rename_i s hs
        cases hc
        have r := opd_rel (tm := tm) (a := a) hG h1 hT.left.left.left
        have rlo := opd_rel (tm := tm) (a := a) hG h2 hT.left.left.right
        have rhi := opd_rel (tm := tm) (a := a) hG h3 hT.left.right
        have rmx := opd_rel (tm := tm) (a := a) hG h4 hT.right
        simp only [pureOp] at hv
        split at hv
        · rename_i id off len e' e1
          rw [e1] at r
          split at hv
          · rename_i he
            subst he
            split at hv
            · cases hv
            · rename_i m hm
              split at hv
              · cases hv
              · rename_i h hh
                split at hv
                · cases hv
                · rename_i l hl
                  cases hv
                  obtain ⟨b, n, o', cap, hb, hx, hlc, hfit, ho⟩ := r
                  obtain ⟨k1, q1⟩ := boundB_run (P := P) hm rmx cap hlc .slice3Acap w
                  obtain ⟨k2, q2⟩ := boundB_run (P := P) hh rhi m (Nat.le_refl _) .slice3B w
                  obtain ⟨k3, q3⟩ := boundB_run (P := P) hl rlo h (Nat.le_refl _) .slice3C w
                  have hrun : (Instr.sliceBounds true len cap (some (a.eval lo)) (some (a.eval hi)) (some (a.eval mx))).run P w = .ok (l, h, m) w := by
                    simp only [Instr.sliceBounds, Sem.run_bind, if_true, k1, Result.andThen_ok, k2, Option.isSome_some, k3, Sem.run_pure]
                  by_cases hml : m = l
                  · subst hml
                    refine ⟨.slice (some ⟨b, o', none⟩) (h - m) (m - m), ?_, b, n, o', m - m, hb, rfl, by omega, ?_, ?_⟩
                    · simp [execOp, Instr.sliceAt, Instr.slice, run_underlying' hu, hx, hrun, run_sizeOf' hs]
                    · have : m - m = 0 := by omega
                      rw [this]; omega
                    · right; omega
                  · refine ⟨.slice (some ⟨b, o' + l * e', none⟩) (h - l) (m - l), ?_, b, n, o' + l * e', m - l, hb, rfl, by omega, ?_, ?_⟩
                    · simp [execOp, Instr.sliceAt, Instr.slice, run_underlying' hu, hx, hrun, run_sizeOf' hs, hml, addr_add]
                    · have h1 : l * e' + (m - l) * e' = m * e' := by rw [← Nat.add_mul]; congr 1; omega
                      have h2 : m * e' ≤ cap * e' := Nat.mul_le_mul_right _ (by omega)
                      omega
                    · left
                      rcases ho with rfl | ⟨rfl, rfl⟩
                      · rfl
                      · omega
          · cases hv
        · cases hv
      · cases hc
    · cases hc
  · rename_i t x heq
    simp only at heq
    subst heq
    split at hc
    · cases hc
    · rename_i d y hn hu h1
      cases hc
      have r1 := opd_rel (tm := tm) (a := a) hG h1 hT
      simp only [pureOp, Option.some.injEq] at hv
      subst hv
      refine ⟨.iface t (a.eval x), ?_, _, rfl, r1⟩
      have hrun : (Instr.makeInterface t (a.eval x)).run P w = .ok (.iface t (a.eval x)) w := by
        simp only [Instr.makeInterface, Sem.run_bind, run_underlying' hu, Result.andThen_ok]
        cases d <;> first | rfl | exact (hn _ rfl).elim
      simp [execOp, hrun]
    · cases hc
  · rename_i name fs cs heq
    simp only at heq
    subst heq
    split at hc
    · rename_i x hfs hcs
      split at hc
      · rename_i y hy
        cases hc
        have r1 := opd_rel (tm := tm) (a := a) hG hy hT
        simp only [pureOp] at hv
        split at hv
        · rename_i t v1 e1
          cases hv
          rw [e1] at r1
          obtain ⟨Y, hY, hr⟩ := r1
          refine ⟨.func (.method name) #[.iface t Y] #[], ?_, Y, rfl, hr⟩
          have e1 : fs = #[x] := by cases fs; simp_all
          have e2 : cs = #[] := by cases cs; simp_all
          subst e1; subst e2
          simp [execOp, Instr.makeFunc, hY]
        · cases hv
      · cases hc
    · cases hc
  · split at hc
    · split at hc
      · cases hc; simp [isPure] at hp
      · cases hc
    · cases hc
  · repeat' (split at hc)
    all_goals (first | (cases hc; done) | (cases hc; simp [isPure] at hp))
  · cases hc

/-! ### methods -/
theorem tblGet_mem {t : TypeId} {f : FuncId} : ∀ {l : List (TypeId × FuncId)}, tblGet t l = some f → (t, f) ∈ l
  | [], h => by simp [tblGet] at h
  | (u, g) :: r, h => by
    simp only [tblGet] at h
    split at h
    · rename_i e; cases h; subst e; exact List.mem_cons_self
    · exact List.mem_cons_of_mem _ (tblGet_mem h)

theorem methTbl_spec {name : String} {t : TypeId} {f : FuncId} (h : tblGet t (methTbl P name) = some f) : t < P.types.size ∧ methRow P name t = some f := by
  have hm := tblGet_mem h
  unfold methTbl at hm
  rw [List.mem_filterMap] at hm
  obtain ⟨u, hu, hf⟩ := hm
  split at hf
  · rename_i g hg
    cases hf
    exact ⟨List.mem_range.1 hu, hg⟩
  · cases hf

theorem methRow_spec {name : String} {t : TypeId} {f : FuncId} (h : methRow P name t = some f) : ∃ i m, P.info? t = some i ∧ i.methods.find? (·.name == name) = some m ∧ m.path = #[] ∧
    ((m.func = some (f, true) ∧ ∃ e, P.underlying t = some (.pointer e)) ∨ (m.func = some (f, false) ∧ ∃ fs, P.underlying t = some (.struct fs))) := by
  unfold methRow at h
  split at h
  · rename_i i hi
    split at h
    · rename_i m hm
      split at h
      · rename_i hp
        have hp : m.path = #[] := by simpa using hp
        split at h
        · rename_i f' e hf hu; cases h; exact ⟨i, m, hi, hm, hp, .inl ⟨hf, e, hu⟩⟩
        · rename_i f' fs hf hu; cases h; exact ⟨i, m, hi, hm, hp, .inr ⟨hf, fs, hu⟩⟩
        · cases h
      · cases h
    · cases h
  · cases h

theorem method_run {name : String} {t : TypeId} {f : FuncId} (h : tblGet t (methTbl P name) = some f) (X : Value) (w : World) : (method (P.types.size + Made.depth) t X name).run P w = .ok (f, X) w := by
  obtain ⟨hlt, hr⟩ := methTbl_spec h
  obtain ⟨i, m, hi, hm, hp, hc⟩ := methRow_spec hr
  obtain ⟨k, hk⟩ : ∃ k, P.types.size + Made.depth = k + 1 := ⟨P.types.size + Made.depth - 1, by have h0 : 0 < P.types.size := Nat.lt_of_le_of_lt (Nat.zero_le _) hlt; omega⟩
  rw [hk]
  have hti : (typeInfo t).run P w = .ok i w := by simp [typeInfo, program, Sem.run, hi, Result.andThen]
  simp only [method, Sem.run_bind, hti, Result.andThen_ok]
  rw [hm]
  simp only [hp]
  rcases hc with ⟨hf, e, hu⟩ | ⟨hf, fs, hu⟩
  · simp [follow, hf, receiverAt, run_underlying' hu, Place.get]
  · simp [follow, hf, receiverAt, run_underlying' hu, Place.get]

theorem nilAhead_run {name : String} {t : TypeId} {f : FuncId} (h : tblGet t (methTbl P name) = some f) (X : Value) (w : World) : (nilAhead (P.types.size + Made.depth) t X name).run P w = .ok (some false) w := by
  obtain ⟨hlt, hr⟩ := methTbl_spec h
  obtain ⟨i, m, hi, hm, hp, hc⟩ := methRow_spec hr
  obtain ⟨k, hk⟩ : ∃ k, P.types.size + Made.depth = k + 1 := ⟨P.types.size + Made.depth - 1, by have h0 : 0 < P.types.size := Nat.lt_of_le_of_lt (Nat.zero_le _) hlt; omega⟩
  rw [hk]
  have hti : (typeInfo t).run P w = .ok i w := by simp [typeInfo, program, Sem.run, hi, Result.andThen]
  simp only [nilAhead, Sem.run_bind, hti, Result.andThen_ok]
  rw [hm]
  simp only [hp]
  rcases hc with ⟨hf, e, hu⟩ | ⟨hf, fs, hu⟩
  · simp [followBlind, hf]
  · simp [followBlind, hf, run_underlying' hu]

theorem pureM {ops : Array Oper} {o : Oper} {op : AOp} {v : V} (hc : compM P ops o = some op) (hp : isPure op = true) (hv : pureOp op tm = some v) (hG : GR P φ) (hT : TR φ tm a op.tmps) : Tells P a o φ v w := by
  obtain ⟨dst, op', type, pos, after, guard⟩ := o
  unfold compM at hc
  split at hc
  · rename_i t heq
    simp only at heq
    subst heq
    split at hc
    · split at hc
      · rename_i q _ name _ _ _
        cases hc
        have r1 : VR φ ((tm.get t).getD .undef) (a.eval (.tmp t)) := hT t (by simp [AOp.tmps, Opd.tmps])
        have r1 := r1.norm
        simp only [pureOp] at hv
        split at hv
        · rename_i nm u v1 e1
          have e1 : norm ((tm.get t).getD .undef) = .mval nm u v1 := e1
          rw [e1] at r1
          split at hv
          · rename_i hcond
            obtain ⟨rfl, htb⟩ := hcond
            cases hv
            obtain ⟨Y, hY, hr⟩ := r1
            obtain ⟨f, hf⟩ := Option.isSome_iff_exists.1 htb
            refine ⟨_, ?_, Y, rfl, hr⟩
            have hna := nilAhead_run (P := P) hf Y w
            simp only [execOp, hY]
            simp [hna, program, Sem.run]
          · cases hv
        · cases hv
      · cases hc
    · cases hc
  · repeat' (split at hc)
    all_goals (first | (cases hc; done) | (cases hc; simp [isPure] at hp))
  · cases hc

theorem pureC {o : Oper} {op : AOp} {v : V} (hc : compC P o = some op) (hp : isPure op = true) (hv : pureOp op tm = some v) (hG : GR P φ) (hT : TR φ tm a op.tmps) : Tells P a o φ v w := by
  obtain ⟨dst, op', type, pos, after, guard⟩ := o
  unfold compC at hc
  split at hc
  · rename_i t x lo hi heq
    simp only at heq
    subst heq
    split at hc
    · rename_i e x' lo' hi' hu h1 h2 h3
      split at hc
      · rename_i s hs
        cases hc
        have r := opd_raw (tm := tm) (a := a) hG h1 hT.left.left
        have o2 : OR φ (lo'.map (·.eval tm)) (lo.map a.eval) := by
          rcases oopd_rel (tm := tm) (a := a) hG h2 hT.left.right with ⟨rfl, rfl⟩ | ⟨u, v, rfl, rfl, hr⟩
          · exact .inl ⟨rfl, rfl⟩
          · exact .inr ⟨_, _, rfl, rfl, hr⟩
        have o3 : OR φ (hi'.map (·.eval tm)) (hi.map a.eval) := by
          rcases oopd_rel (tm := tm) (a := a) hG h3 hT.right with ⟨rfl, rfl⟩ | ⟨u, v, rfl, rfl, hr⟩
          · exact .inl ⟨rfl, rfl⟩
          · exact .inr ⟨_, _, rfl, rfl, hr⟩
        simp only [pureOp] at hv
        split at hv
        · rename_i ad len e' c e1
          -- what the slice is
          have hx : (ad = none ∧ len = 0 ∧ c = 0 ∧ a.eval x = .slice none 0 0) ∨ ∃ id off, ad = some (id, off) ∧ ∃ b n o' cap, φ id = some (b, n) ∧ a.eval x = .slice (some ⟨b, o', none⟩) len cap ∧ len ≤ c ∧ c ≤ cap ∧ o' + cap * e' ≤ n ∧ (o' = off ∨ (len = 0 ∧ cap = 0)) := by
            generalize x'.raw tm = rv at e1 r
            cases rv with
            | slice q l z =>
              simp only [capOf, Option.some.injEq, Prod.mk.injEq] at e1
              obtain ⟨rfl, rfl, rfl, rfl⟩ := e1
              cases q with
              | none => obtain ⟨h0, hh⟩ := r; exact .inl ⟨rfl, h0, h0, hh⟩
              | some q =>
                obtain ⟨id, off⟩ := q
                obtain ⟨b, n, o', cap, hb, hx, hlc, hfit, ho⟩ := r
                exact .inr ⟨id, off, rfl, b, n, o', cap, hb, hx, Nat.le_refl _, hlc, hfit, ho⟩
            | sliceC q l z c0 =>
              simp only [capOf, Option.some.injEq, Prod.mk.injEq] at e1
              obtain ⟨rfl, rfl, rfl, rfl⟩ := e1
              obtain ⟨id, off⟩ := q
              obtain ⟨b, n, o', cap, hb, hx, h1, h2, hfit, ho⟩ := r
              exact .inr ⟨id, off, rfl, b, n, o', cap, hb, hx, h1, h2, hfit, ho⟩
            | _ => simp [capOf] at e1
          split at hv
          · rename_i l h hsb
            rcases hx with ⟨rfl, rfl, rfl, hx⟩ | ⟨id, off, rfl, b, n, o', cap, hb, hx, h1, h2, hfit, ho⟩
            · simp at hv; subst hv
              obtain ⟨hrun, hlh, hh⟩ := sliceB_rel (P := P) (w := w) (cap' := 0) (Nat.le_refl _) hsb o2 o3 true
              have h0 : h = 0 := by omega
              have l0 : l = 0 := by omega
              subst h0; subst l0
              refine ⟨.slice none 0 0, ?_, rfl, rfl⟩
              simp [execOp, Instr.sliceAt, Instr.slice, run_underlying' hu, hx, hrun, run_sizeOf' hs]
            · simp only at hv
              split at hv
              · rename_i he; subst he
                cases hv
                obtain ⟨hrun, hlh, hh⟩ := sliceB_rel (P := P) (w := w) h2 hsb o2 o3 true
                have hhc : h ≤ c := by omega
                have mk : ∀ (oo cc : Nat), h - l ≤ cc → c - l ≤ cc → oo + cc * e' ≤ n → (oo = off + l * e' ∨ (h - l = 0 ∧ cc = 0)) → VR φ (mkC (id, off + l * e') (h - l) e' (c - l)) (.slice (some ⟨b, oo, none⟩) (h - l) cc) := by
                  intro oo cc k1 k2 k3 k4
                  unfold mkC
                  split
                  · exact ⟨b, n, oo, cc, hb, rfl, k1, k3, k4⟩
                  · exact ⟨b, n, oo, cc, hb, rfl, by omega, k2, k3, k4⟩
                by_cases hcl : cap = l
                · subst hcl
                  refine ⟨.slice (some ⟨b, o', none⟩) (h - cap) (cap - cap), ?_, mk o' (cap - cap) (by omega) (by omega) ?_ (.inr ⟨by omega, by omega⟩)⟩
                  · simp [execOp, Instr.sliceAt, Instr.slice, run_underlying' hu, hx, hrun, run_sizeOf' hs]
                  · have : cap - cap = 0 := by omega
                    rw [this]; omega
                · refine ⟨.slice (some ⟨b, o' + l * e', none⟩) (h - l) (cap - l), ?_, mk (o' + l * e') (cap - l) (by omega) (by omega) ?_ ?_⟩
                  · simp [execOp, Instr.sliceAt, Instr.slice, run_underlying' hu, hx, hrun, run_sizeOf' hs, hcl, addr_add]
                  · have : l * e' + (cap - l) * e' = cap * e' := by rw [← Nat.add_mul]; congr 1; omega
                    omega
                  · left
                    rcases ho with rfl | ⟨rfl, rfl⟩
                    · rfl
                    · omega
              · cases hv
          · cases hv
        · cases hv
      · cases hc
    · cases hc
  · repeat' (split at hc)
    all_goals (first | (cases hc; done) | (cases hc; simp [isPure] at hp))
  · cases hc

theorem readX {o : Oper} {op : AOp} {v : V} (hc : compX P o = some op) (hp : isRead op = true) (hv : readOp op tm σ = some v) (hG : GR P φ) (hT : TR φ tm a op.tmps) (hR : Rel G B w0 φ σ w) : Tells P a o φ v w := by
  obtain ⟨dst, op', type, pos, after, guard⟩ := o
  unfold compX at hc
  split at hc
  · split at hc <;> cases hc; simp [isRead] at hp
  · rename_i x heq
    simp only at heq
    subst heq
    split at hc
    · rename_i y hy
      cases hc
      have r := opd_rel (tm := tm) (a := a) hG hy hT
      simp only [readOp] at hv
      split at hv
      · rename_i q e0
        rw [e0] at r
        obtain ⟨b, n, hb, hx⟩ := r
        split at hv
        · rename_i m since seen last ho
          split at hv
          · rename_i es bs ck hmo
            obtain ⟨hB, rb, kk, e', hm, hh, hs⟩ := hR.obj _ _ b n ho hb
            obtain ⟨hBm, M, hM, hER, hbs⟩ := hR.mapObj hmo hm
            split at hv
            · rename_i bb hbb
              split at hv
              · rename_i hck
                subst hck
                split at hv
                · rename_i k u hf
                  cases hv
                  obtain ⟨e, he, h1, h2⟩ := findB_spec hbs hER hf
                  refine ⟨.tuple #[e.key, e.val], ?_, _, rfl, LR.cons h1 (LR.cons h2 LR.nil)⟩
                  have hback : e'.back? = some bb := by rw [← hs] at hbb; simpa using hbb
                  have hfind : M.find? (·.born == bb) = some e := by rw [← Array.find?_toList]; exact he
                  have hrun : (Instr.entry (.pointer (some ⟨b, 0, none⟩))).run P w = .ok (.tuple #[e.key, e.val]) w := by
                    simp only [Instr.entry, getObj, Sem.run_bind, Sem.run, hh, hM, Result.andThen, hback, bne_self_eq_false, Bool.false_eq_true, if_false, hfind]
                    rfl
                  simp [execOp, hx, hrun]
                · cases hv
              · cases hv
            · cases hv
          · cases hv
        · cases hv
      · cases hv
    · cases hc
  · split at hc <;> cases hc; simp [isRead] at hp
  · rename_i s d x heq
    simp only at heq
    subst heq
    split at hc
    · rename_i e x' hs hd h1
      split at hc
      · rename_i hbt
        cases hc
        have he := isByte_spec hbt
        have r := opd_rel (tm := tm) (a := a) hG h1 hT
        simp only [readOp] at hv
        split at hv
        · rename_i l0 e0 e1
          cases hv
          rw [e1] at r
          obtain ⟨h0, hx⟩ := r
          refine ⟨.string .empty, ?_, .empty, rfl, rfl⟩
          simp [execOp, hx, run_convert_bytes_string (P := P) w s d e none 0 0 hs he hd, Conv.bytesToString]
        · rename_i id off len e0 e1
          rw [e1] at r
          obtain ⟨b, n, o', cap, hb, hx, hlc, hfit, ho⟩ := r
          have key : ∀ (l : List UInt8), len = l.length → (loadCells ⟨b, o', none⟩ len).run P w = .ok (l.map fun b => Value.int .u8 b.toNat).toArray w →
              (execOp a.eval ⟨dst, .convert s d x, type, pos, after, guard⟩).run P w = .ok (.value (.string ⟨l.toArray⟩)) w := by
            intro l hl hrun
            have h2 := run_bytesToString (P := P) w ⟨b, o', none⟩ len cap (l.map fun b => (b.toNat : Int)) (by rw [hrun]; simp [Function.comp_def])
            rw [foldl_push_byteCells] at h2
            have h3 : (⟨ByteArray.empty.data ++ l.toArray⟩ : ByteArray) = ⟨l.toArray⟩ := by
              have h4 : ByteArray.empty.data = #[] := rfl
              rw [h4, Array.empty_append]
            rw [h3] at h2
            simp [execOp, hx, run_convert_bytes_string (P := P) w s d e _ _ _ hs he hd, h2]
          split at hv
          · rename_i hl
            cases hv
            refine ⟨.string ⟨#[]⟩, ?_, ⟨#[]⟩, rfl, rfl⟩
            have := key [] (by simpa using hl) (by rw [hl]; simp [loadCells, loadCellsFrom])
            simpa using this
          · rename_i hl
            split at hv
            · rename_i vs hvs
              split at hv
              · rename_i str hstr
                cases hv
                have ho' : o' = off := by rcases ho with h | ⟨h, _⟩; exact h; exact (hl h).elim
                subst ho'
                obtain ⟨xs, hr, hlen, hcell⟩ := hR.load hvs hb
                obtain ⟨l, rfl, hls⟩ := bytesV_spec hstr hr
                have hld := run_loadCells_list (P := P) w ⟨b, o', none⟩ _ hcell
                simp only [List.length_map] at hlen hld
                rw [hlen] at hld
                exact ⟨.string ⟨l.toArray⟩, key l hlen.symm hld, ⟨l.toArray⟩, rfl, by simpa using hls⟩
              · cases hv
            · cases hv
        · cases hv
      · cases hc
    · split at hc <;> cases hc; simp [isRead] at hp
    · split at hc <;> cases hc; simp [isRead] at hp
    · cases hc
  · split at hc <;> cases hc; simp [isRead] at hp
  · repeat' (split at hc)
    all_goals (first | (cases hc; done) | (cases hc; simp [isRead] at hp))
  · repeat' (split at hc)
    all_goals (first | (cases hc; done) | (cases hc; simp [isRead] at hp))
  · repeat' (split at hc)
    all_goals (first | (cases hc; done) | (cases hc; simp [isRead] at hp))
  · repeat' (split at hc)
    all_goals (first | (cases hc; done) | (cases hc; simp [isRead] at hp))
  · repeat' (split at hc)
    all_goals (first | (cases hc; done) | (cases hc; simp [isRead] at hp))
  · cases hc

theorem modify_set {A : Array Go.Obj} {b : Nat} {o : Go.Obj} (f : Go.Obj → Go.Obj) (h : A[b]? = some o) : A.modify b f = A.setIfInBounds b (f o) := by
  apply Array.ext
  · simp
  · intro i h1 h2
    simp only [Array.getElem_modify, Array.getElem_setIfInBounds]
    by_cases c : b = i
    · subst c
      have h3 : b < A.size := by simpa using h1
      have : A[b]'h3 = o := by
        rw [Array.getElem?_eq_getElem h3] at h; simpa using h
      simp [this]
    · have h3 : i < A.size := by simpa using h1
      rw [Array.getElem_setIfInBounds_ne h3 c]; simp [c]

theorem writeX {o : Oper} {op : AOp} {v : V} (hc : compX P o = some op) (hw : isWrite op = true) (hv : writeOp op tm σ = some (v, σ')) (hG : GR P φ) (hT : TR φ tm a op.tmps) (hR : Rel G B w0 φ σ w) : Does P a o G B w0 φ σ' v w := by
  obtain ⟨dst, op', type, pos, after, guard⟩ := o
  unfold Does
  unfold compX at hc
  split at hc
  · rename_i t x heq
    simp only at heq
    subst heq
    split at hc
    · rename_i kt e x' hu h1
      cases hc
      have r1 := opd_rel (tm := tm) (a := a) hG h1 hT
      simp only [writeOp] at hv
      split at hv
      · rename_i e0
        rw [e0] at r1
        have r1 : a.eval x = .map none := r1
        simp only [Option.some.injEq, Prod.mk.injEq] at hv
        obtain ⟨rfl, rfl⟩ := hv
        have hnew := hR.new (.iter none 0 [] 0) (.mapIter none 0 #[] 0) 0 rfl (.inr trivial) ⟨hR.B_le, 0, #[], 0, heap_alloc_new w _⟩
        refine ⟨_, _, _, .inl ?_, hnew.2, hnew.1, w.heap.size, 0, Phi.upd_same _ _ _, rfl⟩
        simp [execOp, Instr.range, run_underlying' hu, r1]
      · rename_i q e0
        rw [e0] at r1
        obtain ⟨b, n, hb, hm⟩ := r1
        split at hv
        · rename_i es bs clock ho
          simp only [Option.some.injEq, Prod.mk.injEq] at hv
          obtain ⟨rfl, rfl⟩ := hv
          obtain ⟨hB, M, hM, hER, hbs⟩ := hR.mapObj ho hb
          have hnn := hR.next_none
          have hnew := hR.new (.iter (some q) clock [] clock) (.mapIter (some b) clock #[] clock) 0 rfl (.inr trivial) ⟨hR.B_le, b, n, #[], φ.le_upd _ hnn _ _ hb, heap_alloc_new w _, rfl⟩
          refine ⟨_, _, _, .inl ?_, hnew.2, hnew.1, w.heap.size, 0, Phi.upd_same _ _ _, rfl⟩
          simp [execOp, Instr.range, run_underlying' hu, hm, run_getObj_map hM]
        · cases hv
      · cases hv
    · cases hc
  · split at hc <;> cases hc; simp [isWrite] at hw
  · split at hc <;> cases hc; simp [isWrite] at hw
  · rename_i s d x heq
    simp only at heq
    subst heq
    split at hc
    · split at hc <;> cases hc; simp [isWrite] at hw
    · rename_i e0 e x' hs hd h1
      split at hc
      · rename_i hcond
        obtain ⟨rfl, hbt⟩ := hcond
        cases hc
        have he := isByte_spec hbt
        have r := opd_rel (tm := tm) (a := a) hG h1 hT
        simp only [writeOp] at hv
        split at hv
        · rename_i id off len e' e1
          have r0 := r
          rw [e1] at r
          obtain ⟨b, n, o', cap, hb, hx, hlc, hfit, ho⟩ := r
          split at hv
          · rename_i nn z t hob
            simp only [Option.some.injEq, Prod.mk.injEq] at hv
            obtain ⟨rfl, rfl⟩ := hv
            obtain ⟨C, E, fz, h1', h2, h3, h4, h5⟩ := hR.obj _ _ b n hob hb
            obtain ⟨rfl, hBb⟩ := h3 rfl
            have hset := hR.setObj (o' := .cells true 0 nn z t) (O := .cells C E (C.size, C.size + 1)) hob rfl rfl hb hBb rfl (fun hs' => ⟨C, E, _, hs', h2, (fun h => by cases h), h4, h5⟩)
            refine ⟨a.eval x, _, φ, .inl ?_, Phi.le.refl _, hset, by rw [← e1]; exact r0⟩
            have hsh : w.shape? b = some (E, C.size) := by unfold World.shape?; rw [h1']
            have hfr : w.freeze ⟨b, C.size, none⟩ 1 = { w with heap := w.heap.setIfInBounds b (.cells C E (C.size, C.size + 1)) } := by
              unfold World.freeze
              rw [if_neg (by decide)]
              congr 1
              rw [modify_set _ h1']
              rfl
            simp [execOp, convert, run_underlying' hd, run_underlying' he, hx, markStringish, hsh, hfr]
          · cases hv
        · cases hv
      · cases hc
    · rename_i e x' hs hd h1
      split at hc
      · rename_i hbt
        cases hc
        have he := isByte_spec hbt
        have r := opd_rel (tm := tm) (a := a) hG h1 hT
        simp only [writeOp] at hv
        split at hv
        · rename_i str e1
          simp only [Option.some.injEq, Prod.mk.injEq] at hv
          obtain ⟨rfl, rfl⟩ := hv
          rw [e1] at r
          obtain ⟨bs, hx, hbs⟩ := r
          have hrun := run_bytes_of_string (P := P) w s d e bs hs hd he
          have hRd := hR.drew
          have hsz : bs.size = bs.data.size := rfl
          have hlen : str.length = bs.size := by rw [← hbs, List.length_map, Array.length_toList]; rfl
          have hge : bs.size ≤ grownCap w bs.size 0 e := grownCap_ge _ _ _ _
          generalize grownCap w bs.size 0 e = cap at hrun hge
          have hnew := hRd.new (.cells true 0 str.length [] (ofList (str.map fun b => V.int .u8 (Int.ofNat b)))) (.cells (bytesRow bs cap) e ((bytesRow bs cap).size, (bytesRow bs cap).size + 1)) (bytesRow bs cap).size rfl (.inr trivial) (by
            refine ⟨bytesRow bs cap, e, _, heap_alloc_new _ _, rfl, (fun h => by cases h), ?_, ?_⟩
            · simp [bytesRow]; omega
            · intro i v hi
              have h2 : cellOf (str.map fun b => V.int .u8 (Int.ofNat b)).length [] (ofList (str.map fun b => V.int .u8 (Int.ofNat b))) i = some v := by simpa using hi
              rw [cellOf_ofList] at h2
              rw [List.getElem?_map] at h2
              have hilt : i < bs.data.size := by
                rcases Nat.lt_or_ge i str.length with q | q
                · omega
                · rw [List.getElem?_eq_none q] at h2; cases h2
              rw [← hbs, List.getElem?_map] at h2
              have h3 : bs.data.toList[i]? = some (bs.data[i]'hilt) := by rw [Array.getElem?_toList, Array.getElem?_eq_getElem hilt]
              rw [h3] at h2
              simp at h2; subst h2
              refine ⟨.int .u8 bs.data[i].toNat, ?_, rfl⟩
              unfold bytesRow
              rw [Array.getElem?_append_left (by simpa using hilt), Array.getElem?_map, Array.getElem?_eq_getElem hilt]; rfl)
          refine ⟨.slice (some ⟨w.heap.size, 0, none⟩) bs.size cap, _, _, .inl ?_, hnew.2, hnew.1, w.heap.size, (bytesRow bs cap).size, 0, cap, Phi.upd_same _ _ _, ?_, by omega, ?_, .inl rfl⟩
          · simp only [execOp, hx, Sem.run_bind, hrun, Result.andThen_ok]
            rfl
          · rw [hlen]
          · simp [bytesRow]; omega
        · cases hv
      · cases hc
    · cases hc
  · split at hc <;> cases hc; simp [isWrite] at hw
  · repeat' (split at hc)
    all_goals (first | (cases hc; done) | (cases hc; simp [isWrite] at hw))
  · repeat' (split at hc)
    all_goals (first | (cases hc; done) | (cases hc; simp [isWrite] at hw))
  · repeat' (split at hc)
    all_goals (first | (cases hc; done) | (cases hc; simp [isWrite] at hw))
  · repeat' (split at hc)
    all_goals (first | (cases hc; done) | (cases hc; simp [isWrite] at hw))
  · repeat' (split at hc)
    all_goals (first | (cases hc; done) | (cases hc; simp [isWrite] at hw))
  · cases hc

theorem eqV_ptr {u v : V} {r : Bool} (h : eqV .ptr u v = some r) : (u = .ptr none ∧ ∃ q, v = .ptr q ∧ r = q.isNone) ∨ (∃ p, u = .ptr (some p) ∧ v = .ptr none ∧ r = false) := by
  cases u with
  | ptr p =>
    cases p with
    | none =>
      cases v with
      | ptr q => exact .inl ⟨rfl, q, rfl, by simp only [eqV, Option.some.injEq] at h; exact h.symm⟩
      | _ => simp [eqV] at h
    | some p =>
      cases v with
      | ptr q =>
        cases q with
        | none => exact .inr ⟨p, rfl, rfl, by simp only [eqV, Option.some.injEq] at h; exact h.symm⟩
        | some q => simp [eqV] at h
      | _ => simp [eqV] at h
  | _ => simp [eqV] at h

theorem readM {ops : Array Oper} {o : Oper} {op : AOp} {v : V} (hc : compM P ops o = some op) (hp : isRead op = true) (hv : readOp op tm σ = some v) (hG : GR P φ) (hT : TR φ tm a op.tmps) (hR : Rel G B w0 φ σ w) : Tells P a o φ v w := by
  obtain ⟨dst, op', type, pos, after, guard⟩ := o
  unfold compM at hc
  split at hc
  · repeat' (split at hc)
    all_goals (first | (cases hc; done) | (cases hc; simp [isRead] at hp))
  · rename_i bop t x y yt heq
    simp only at heq
    subst heq
    split at hc
    · rename_i e hu
      split at hc
      · rename_i hcond
        obtain ⟨hop, hcx, hcy, hsz⟩ := hcond
        split at hc
        · rename_i x' y' h1 h2
          cases hc
          have r1 := opd_rel (tm := tm) (a := a) hG h1 hT.left
          have r2 := opd_rel (tm := tm) (a := a) hG h2 hT.right
          obtain ⟨sz, hs, hsz⟩ : ∃ n, szOf P e = some n ∧ n ≠ 0 := by
            cases h : szOf P e with
            | none => rw [h] at hsz; simp at hsz
            | some n => rw [h] at hsz; exact ⟨n, rfl, by simpa using Nat.ne_of_gt hsz⟩
          have fin : ∀ (X Y : Value) (r : Bool), a.eval x = X → a.eval y = Y → (∃ p, X = .pointer p) → (∀ d, (Op.equalIn (d + 1) t X Y).run P w = .ok r w) → v = .bool (if (bop == .neq) then !r else r) →
              Tells P a ⟨dst, .binOp bop t x y yt, type, pos, after, guard⟩ φ v w := by
            rintro X Y r hX hY ⟨p, rfl⟩ hrun rfl
            refine ⟨.bool (if (bop == .neq) then !r else r), ?_, rfl⟩
            have hg : (eqGuard bop t x y (a.eval x) (a.eval y)).run P w = .ok () w := eqGuard_plain bop t x y _ _ (by rw [hX]; simp) (by rw [hX]; simp)
            have hb := run_eql_of (P := P) (w := w) (t := t) (X := .pointer p) (Y := Y) (r := r) hop (hrun 9999) (by simp) (by simp) (by simp) (by simp)
            rw [hX, hY] at hg
            simp only [execOp, hX, hY, Sem.run_bind, hg, Result.andThen_ok, hb]
            rfl
          simp only [readOp] at hv
          split at hv
          · rename_i i oi j oj e1 e2
            rw [e1] at r1; rw [e2] at r2
            obtain ⟨b1, n1, hb1, hx⟩ := r1
            obtain ⟨b2, n2, hb2, hy⟩ := r2
            split at hv
            · rename_i hij
              subst hij
              rw [hb1] at hb2; cases hb2
              cases hv
              refine fin _ _ (oi == oj) hx hy ⟨_, rfl⟩ ?_ rfl
              have h3 : (sameAddr ⟨b1, oi, none⟩ ⟨b1, oj, none⟩).run P w = .ok (oi == oj) w := by
                simp only [sameAddr, beq_self_eq_true, if_true, Sem.run_pure]
                have : ((⟨b1, oi, none⟩ : Addr) == ⟨b1, oj, none⟩) = (oi == oj) := by
                  by_cases c : oi = oj
                  · subst c; simp
                  · have h4 : (⟨b1, oi, none⟩ : Addr) ≠ ⟨b1, oj, none⟩ := by intro h; cases h; exact c rfl
                    rw [beq_eq_false_iff_ne.2 c, beq_eq_false_iff_ne.2 h4]
                rw [this]
              intro d
              simp [Op.equalIn, run_underlying' hu, run_sizeOf' hs, hsz, h3]
            · rename_i hij
              split at hv
              · rename_i k1 z1 t1 g2 k2 z2 t2 ho1 ho2
                cases hv
                obtain ⟨C1, E1, fz1, p1, p2, p3, _⟩ := hR.obj _ _ _ _ ho1 hb1
                obtain ⟨C2, E2, fz2, q1, q2, q3, _⟩ := hR.obj _ _ _ _ ho2 hb2
                obtain ⟨rfl, _⟩ := p3 rfl
                obtain ⟨rfl, _⟩ := q3 rfl
                have hbb : b1 ≠ b2 := by
                  rintro rfl
                  exact (hR.sep i j _ _ b1 n1 n2 hij ho1 ho2 rfl rfl hb1 hb2).1 rfl
                refine fin _ _ false hx hy ⟨_, rfl⟩ ?_ (by rcases hop with rfl | rfl <;> rfl)
                have h3 := run_sameAddr_other (P := P) (w := w) (a := ⟨b1, oi, none⟩) (b := ⟨b2, oj, none⟩) (by intro h; cases h; exact hbb rfl) p1 q1
                intro d
                simp [Op.equalIn, run_underlying' hu, run_sizeOf' hs, hsz, h3]
              · cases hv
          · split at hv
            · rename_i u v1 hno bb hbb
              cases hv
              rcases eqV_ptr hbb with ⟨e1, q, e2, rfl⟩ | ⟨q, e1, e2, rfl⟩
              · rw [e1] at r1; rw [e2] at r2
                have r1 : a.eval x = .pointer none := r1
                cases q with
                | none =>
                  have r2 : a.eval y = .pointer none := r2
                  exact fin _ _ true r1 r2 ⟨_, rfl⟩ (fun d => by simp [Op.equalIn, run_underlying' hu]) rfl
                | some q =>
                  obtain ⟨q1, q2⟩ := q
                  obtain ⟨b2, n2, hb2, hy⟩ := r2
                  exact fin _ _ false r1 hy ⟨_, rfl⟩ (fun d => by simp [Op.equalIn, run_underlying' hu]) rfl
              · obtain ⟨q1, q2⟩ := q
                rw [e1] at r1; rw [e2] at r2
                obtain ⟨b1, n1, hb1, hx⟩ := r1
                have r2 : a.eval y = .pointer none := r2
                exact fin _ _ false hx r2 ⟨_, rfl⟩ (fun d => by simp [Op.equalIn, run_underlying' hu]) rfl
            · cases hv
        · cases hc
      · cases hc
    · cases hc
  · cases hc

theorem appendIn_sound {ats : Array TypeId} {t u e e2 type : TypeId} {s bs : Nat} {X Y : Value} {x y v : V} (hat : ats[0]? = some t) (hat1 : ats[1]? = some u) (hu : P.underlying t = some (.slice e)) (hu2 : P.underlying u = some (.slice e2)) (hs : szOf P e = some s) (hb : bytesOf P e = some bs)
    (hv : appendIn σ s bs x y = some (v, σ')) (r1 : VR φ x X) (r2 : VR φ y Y) (hR : Rel G B w0 φ σ w) : ∃ Z w', (Builtin.append_ ats type #[X, Y]).run P w = .ok Z w' ∧ Rel G B w0 φ σ' w' ∧ VR φ v Z := by
  unfold appendIn at hv
  split at hv
  · rename_i ad l e' c ya ye
    split at hv
    · rename_i hcond
      obtain ⟨rfl, hpos⟩ := hcond
      cases hv
      have r10 := r1
      obtain ⟨id, off⟩ := ad
      obtain ⟨b, n, o', cap, hb1, rfl, h1, h2, hfit, ho⟩ := r1
      have hy : ∃ ad c, Y = .slice ad 0 c := by
        cases ya with
        | none => exact ⟨_, _, r2.2⟩
        | some q => obtain ⟨b0, n0, o0, c0, _, hh, _⟩ := r2; exact ⟨_, _, hh⟩
      obtain ⟨ad, c0, rfl⟩ := hy
      obtain ⟨i, hi, hsi⟩ := szOf_info hs
      have hf : ∀ w : World, (Builtin.firstCells i.size 0 (.slice ad 0 c0)).run P w = .ok #[] w := by
        intro w; cases ad <;> simp [Builtin.firstCells, loadCells, loadCellsFrom]
      have hle : l ≤ cap := by omega
      refine ⟨_, w, ?_, hR, r10⟩
      simp [Builtin.append_, hat, hat1, run_underlying' hu, run_underlying' hu2, Go.sizeOf, typeInfo, hi, Builtin.lenOf, hle, hf, storeCells]
    · cases hv
  · rename_i id off l e' c jd joff k ye hno
    split at hv
    · rename_i hcond
      obtain ⟨rfl, hpos, hk, hlc, hb1, hb2⟩ := hcond
      split at hv
      · rename_i vs hvs
        split at hv
        · rename_i σ2 hst
          cases hv
          obtain ⟨b, n, o', cap, hbx, rfl, h1, h2, hfit, ho⟩ := r1
          obtain ⟨b0, n0, o0, c0, hb0, rfl, hlc0, hfit0, ho0⟩ := r2
          have ho : o' = off := by rcases ho with h | ⟨h, h'⟩; exact h; omega
          subst ho
          have ho0 : o0 = joff := by rcases ho0 with h | ⟨h, _⟩; exact h; omega
          subst ho0
          obtain ⟨xs, hr, hlen, hcell⟩ := hR.load hvs hb0
          simp only [maxLenBytes] at hb1 hb2
          have happ := app_slice (P := P) (w := w) (c := c0) (base := some ⟨b, o', none⟩) (sLen := l) (sCap := cap) (ty := type) hat1 hu2 hs hb hlen hcell (by omega) (by omega) hat hu
          rw [if_pos (by omega)] at happ
          obtain ⟨w', hrun, hR'⟩ := hR.store (P := P) hst hbx hr
          refine ⟨.slice (some ⟨b, o', none⟩) (l + k) cap, w', ?_, hR', ?_⟩
          · rw [happ]
            simp only [add_none, hrun, Result.andThen_ok]
          · unfold mkC
            split
            · exact ⟨b, n, o', cap, hbx, rfl, by omega, hfit, .inl rfl⟩
            · exact ⟨b, n, o', cap, hbx, rfl, by omega, h2, hfit, .inl rfl⟩
        · cases hv
      · cases hv
    · cases hv
  · cases hv

theorem writeC {o : Oper} {op : AOp} {v : V} (hc : compC P o = some op) (hw : isWrite op = true) (hv : writeOp op tm σ = some (v, σ')) (hG : GR P φ) (hT : TR φ tm a op.tmps) (hR : Rel G B w0 φ σ w) : Does P a o G B w0 φ σ' v w := by
  obtain ⟨dst, op', type, pos, after, guard⟩ := o
  unfold compC at hc
  split at hc
  · repeat' (split at hc)
    all_goals (first | (cases hc; done) | (cases hc; simp [isWrite] at hw))
  · rename_i c heq
    simp only at heq
    subst heq
    obtain ⟨callee, args, ats⟩ := c
    split at hc
    · rename_i hcal
      simp only at hcal
      subst hcal
      simp only at hc
      split at hc
      · rename_i t u x y hat hat1 hargs
        split at hc
        · rename_i e e2 hu hu2
          split at hc
          · rename_i s bs z x' y' hs hb hz h1 h2
            cases hc
            simp only [writeOp] at hv
            have hT1 : TR φ tm a x'.tmps := hT.left
            have hT2 : TR φ tm a y'.tmps := hT.right
            split at hv
            · rename_i r hin
              cases hv
              obtain ⟨Z, w', hrun, hR', hz⟩ := appendIn_sound (type := type) hat hat1 hu hu2 hs hb hin (opd_raw (tm := tm) (a := a) hG h1 hT1) (opd_rel (tm := tm) (a := a) hG h2 hT2) hR
              refine ⟨Z, w', φ, .inl ?_, Phi.le.refl _, hR', hz⟩
              have e1 : args = #[x, y] := by cases args; simp_all
              subst e1
              simp [execOp, resolve, invoke, builtin, hrun]
            · rename_i hin
              have hc0 : cBuiltin P .append ats args.toList = some (.append s bs x' y') := by
                rw [hargs]
                simp only [cBuiltin, hat, hu, hs, hb, hz, h1, h2, hat1, hu2]
              exact builtin_write (op := .append s bs x' y') hc0 rfl hv hG hT hR
          · cases hc
        · cases hc
      · cases hc
    · cases hc
  · cases hc

theorem pure_sound {ops : Array Oper} {o : Oper} {op : AOp} {v : V} (hc : compOp P ops o = some op) (hp : isPure op = true) (hv : pureOp op tm = some v) (hG : GR P φ) (hT : TR φ tm a op.tmps) : Tells P a o φ v w := by
  rcases compOp_spec hc with h | h | h | h
  · exact pure_sound0 h hp hv hG hT
  · exact pureM h hp hv hG hT
  · exact pureC h hp hv hG hT
  · exact pureX h hp hv hG hT
theorem read_sound {ops : Array Oper} {o : Oper} {op : AOp} {v : V} (hc : compOp P ops o = some op) (hp : isRead op = true) (hv : readOp op tm σ = some v) (hG : GR P φ) (hT : TR φ tm a op.tmps) (hR : Rel G B w0 φ σ w) : Tells P a o φ v w := by
  rcases compOp_spec hc with h | h | h | h
  · exact read_sound0 h hp hv hG hT hR
  · exact readM h hp hv hG hT hR
  · unfold compC at h
    repeat' (split at h)
    all_goals (first | (cases h; done) | (cases h; simp [isRead] at hp))
  · exact readX h hp hv hG hT hR
theorem write_sound {ops : Array Oper} {o : Oper} {op : AOp} {v : V} (hc : compOp P ops o = some op) (hw : isWrite op = true) (hv : writeOp op tm σ = some (v, σ')) (hG : GR P φ) (hT : TR φ tm a op.tmps) (hR : Rel G B w0 φ σ w) : Does P a o G B w0 φ σ' v w := by
  rcases compOp_spec hc with h | h | h | h
  · exact write_sound0 h hw hv hG hT hR
  · unfold compM at h
    repeat' (split at h)
    all_goals (first | (cases h; done) | (cases h; simp [isWrite] at hw))
  · exact writeC h hw hv hG hT hR
  · exact writeX h hw hv hG hT hR
end AM
