import Derived.Test.YtdnefddmghhgpaaGreatDoorM8b
import Derived.Laws.IdiomStrings
import Derived.Maps.RangeRun
import Derived.LaidEql
import Derived.TacticsIn
import Derived.RangeFuncLeaves
import Derived.RangeFuncRecord
import Derived.Scope
namespace AM
open Go Go.RowKit
set_option linter.unusedVariables false
set_option linter.unusedSimpArgs false
variable {P : Program} {φ : Phi} {tm : T V} {a : Act} {w : World} {w0 : Base} {σ σ' : St} {G B : Nat}
def isX : AOp → Bool
  | .rangeM _ | .nextM _ | .entryM _ | .toStr _ | .strish _ | .toBytes _ | .sBin .. | .slice3 .. | .mkIface .. | .mval .. | .nilCheckM .. | .invoke .. | .deferD .. | .eqP .. | .sliceOfC .. | .appendC .. | .lenX .. | .iaddrX .. | .sliceOfX .. | .loadX .. | .storeX .. | .appendX .. => true
  | _ => false

theorem compX_isX {o : Oper} {op : AOp} (h : compX P o = some op) : isX op = true := by
  unfold compX at h
  repeat' (split at h)
  all_goals (first | (cases h; done) | (cases h; rfl))

theorem compM_isX {ops : Array Oper} {o : Oper} {op : AOp} (h : compM P ops o = some op) : isX op = true := by
  unfold compM at h
  repeat' (split at h)
  all_goals (first | (cases h; done) | (cases h; rfl))

theorem compC_isX {o : Oper} {op : AOp} (h : compC P o = some op) : isX op = true := by
  unfold compC at h
  repeat' (split at h)
  all_goals (first | (cases h; done) | (cases h; rfl))

theorem compD_isX {o : Oper} {op : AOp} (h : compD P o = some op) : isX op = true := by
  unfold compD at h
  repeat' (split at h)
  all_goals (first | (cases h; done) | (cases h; rfl))
def CompY (P : Program) (ops : Array Oper) (o : Oper) (op : AOp) : Prop := compM P ops o = some op ∨ compD P o = some op ∨ compC P o = some op ∨ compX P o = some op

theorem compY_isX {ops : Array Oper} {o : Oper} {op : AOp} (h : CompY P ops o op) : isX op = true := by
  rcases h with h | h | h | h
  · exact compM_isX h
  · exact compD_isX h
  · exact compC_isX h
  · exact compX_isX h

theorem compOp_spec {ops : Array Oper} {o : Oper} {op : AOp} (h : compOp P ops o = some op) : compOp0 P o = some op ∨ CompY P ops o op := by
  unfold compOp at h
  split at h
  · rename_i a ha; cases h; exact .inr (.inl ha)
  · split at h
    · rename_i a ha; cases h; exact .inr (.inr (.inl ha))
    · split at h
      · rename_i a ha; cases h; exact .inr (.inr (.inr (.inl ha)))
      · split at h
        · rename_i a ha; cases h; exact .inl ha
        · exact .inr (.inr (.inr (.inr h)))

theorem isByte_spec {e : TypeId} (h : isByte P e = true) : P.underlying e = some (.int .u8) := by
  unfold isByte at h
  split at h
  · assumption
  · cases h

theorem findB_spec {b : Nat} : ∀ {bs : List Nat} {es : List (V × V)} {M : List MapEntry} {k v : V}, M.map (·.born) = bs → ER φ es M → findB b bs es = some (k, v) → ∃ e, M.find? (·.born == b) = some e ∧ VR φ k e.key ∧ VR φ v e.val
  | [], es, M, k, v, hb, hE, h => by simp [findB] at h
  | c :: r, [], M, k, v, hb, hE, h => by simp [findB] at h
  | c :: r, x :: s, [], k, v, hb, hE, h => by simp at hb
  | c :: r, x :: s, e :: M, k, v, hb, hE, h => by
    simp at hb
    obtain ⟨hb1, hb2⟩ := hb
    obtain ⟨x1, x2⟩ := x
    obtain ⟨e', he', h1, h2⟩ := hE.2 0 x1 x2 rfl
    simp at he'; subst he'
    simp only [findB] at h
    split at h
    · rename_i hcb
      simp at h; obtain ⟨rfl, rfl⟩ := h
      refine ⟨e, ?_, h1, h2⟩
      rw [List.find?_cons_of_pos (by simp [hb1, hcb])]
    · rename_i hcb
      obtain ⟨e2, h3, h4⟩ := findB_spec hb2 ⟨by have := hE.1; simpa using this, fun i k v hi => by simpa using hE.2 (i + 1) k v (by simpa using hi)⟩ h
      refine ⟨e2, ?_, h4⟩
      rw [List.find?_cons_of_neg (by simp [hb1, hcb])]; exact h3
theorem sameN_eq' : ∀ (x y : List Nat), sameN x y = true → x = y
  | [], y, h => by cases y <;> simp_all [sameN]
  | a :: r, y, h => by
    cases y with
    | nil => simp [sameN] at h
    | cons c s =>
      simp only [sameN, Bool.and_eq_true, beq_iff_eq] at h
      rw [h.1, sameN_eq' r s h.2]
theorem sameN_refl : ∀ (x : List Nat), sameN x x = true
  | [] => rfl
  | a :: r => by simp [sameN, sameN_refl r]

theorem bytes_list (x : ByteArray) : x.toList = x.data.toList := by
  have key : ∀ (n i : Nat) (acc : List UInt8), x.size - i = n → ByteArray.toList.loop x i acc = acc.reverse ++ x.data.toList.drop i := by
    intro n
    induction n with
    | zero =>
      intro i acc h
      unfold ByteArray.toList.loop
      rw [if_neg (by omega)]
      have : x.data.toList.length ≤ i := by simp; have : x.size = x.data.size := rfl; omega
      rw [List.drop_eq_nil_of_le this]; simp
    | succ n ih =>
      intro i acc h
      unfold ByteArray.toList.loop
      have hi : i < x.size := by omega
      rw [if_pos hi, ih (i + 1) _ (by omega)]
      have hl : i < x.data.toList.length := by simpa using hi
      rw [List.drop_eq_getElem_cons hl]
      have : x.get! i = x.data.toList[i] := by
        have hd : i < x.data.size := hi
        simp only [ByteArray.get!, getElem!_pos x.data i hd, Array.getElem_toList]
      rw [this]; simp
  have := key x.size 0 [] (by omega)
  unfold ByteArray.toList
  rw [this]; simp

theorem bytes_eq_iff (x y : ByteArray) : (x.toList == y.toList) = sameN (x.data.toList.map (·.toNat)) (y.data.toList.map (·.toNat)) := by
  rw [bytes_list, bytes_list]
  have inj : ∀ (a b : List UInt8), a.map (·.toNat) = b.map (·.toNat) → a = b := by
    intro a
    induction a with
    | nil => intro b h; cases b <;> simp_all
    | cons x r ih =>
      intro b h
      cases b with
      | nil => simp at h
      | cons y s =>
        simp only [List.map_cons, List.cons.injEq] at h
        rw [UInt8.toNat_inj.1 h.1, ih s h.2]
  cases h : sameN (x.data.toList.map (·.toNat)) (y.data.toList.map (·.toNat)) with
  | true => rw [inj _ _ (sameN_eq' _ _ h)]; simp
  | false =>
    rw [beq_eq_false_iff_ne]
    intro e
    rw [e, sameN_refl] at h; cases h

theorem strBin_run {op : BinOp} {t : TypeId} {x y : List Nat} {X Y : ByteArray} {v : V} (hv : strBin (bn op) x y = some v) (hx : X.data.toList.map (·.toNat) = x) (hy : Y.data.toList.map (·.toNat) = y) (w : World) :
    ∃ Z, (Op.stringOp op X Y).run P w = .ok Z w ∧ VR φ v Z := by
  subst hx; subst hy
  cases op <;> simp only [bn, strBin] at hv
  case add =>
    split at hv
    · rename_i h
      cases hv
      simp only [List.length_map, Array.length_toList] at h
      have h1 : X.data.size = X.size := rfl
      have h2 : Y.data.size = Y.size := rfl
      refine ⟨.string (X ++ Y), ?_, X ++ Y, rfl, by simp⟩
      unfold Op.stringOp
      simp only
      rw [if_neg (by simp [IntKind.max, IntKind.bits]; omega)]
      rfl
    · cases hv
  case eql => cases hv; exact ⟨.bool _, rfl, by simp only [VR, bytes_eq_iff]⟩
  case neq => cases hv; exact ⟨.bool _, rfl, by simp only [VR, bytes_eq_iff]⟩
  all_goals cases hv

theorem bytesV_spec : ∀ {vs : List V} {s : List Nat} {xs : List Value}, bytesV vs = some s → LR φ vs xs → ∃ l : List UInt8, xs = (l.map fun b => Value.int .u8 b.toNat) ∧ l.map (·.toNat) = s
  | [], s, xs, h, hL => by simp [bytesV] at h; subst h; cases hL; exact ⟨[], rfl, rfl⟩
  | v :: r, s, xs, h, hL => by
    obtain ⟨x, q, rfl, hx, hq⟩ := hL
    cases v with
    | int k n =>
      cases k <;> simp only [bytesV] at h <;> try (cases h; done)
      split at h
      · rename_i hn
        split at h
        · rename_i s' hs
          cases h
          obtain ⟨l, rfl, hl⟩ := bytesV_spec hs hq
          have hx : x = .int .u8 n := hx
          subst hx
          refine ⟨UInt8.ofNat n.toNat :: l, ?_, ?_⟩
          · have : ((UInt8.ofNat n.toNat).toNat : Int) = n := by simp; omega
            rw [List.map_cons, this]
          · have : (UInt8.ofNat n.toNat).toNat = n.toNat := by simp; omega
            rw [List.map_cons, this, hl]
        · cases h
      · cases h
    | _ => simp [bytesV] at h

theorem boundB_run {x : V} {X : Value} {y m : Nat} (h : boundB x y = some m) (hx : VR φ x X) (y' : Nat) (hy : y ≤ y') (c : BoundsCode) (w : World) : (Instr.sliceBound X y' c).run P w = .ok m w ∧ m ≤ y := by
  unfold boundB at h
  split at h
  · rename_i k i
    split at h
    · rename_i hi
      cases h
      have hx : X = .int k i := hx
      subst hx
      refine ⟨?_, by omega⟩
      simp only [Instr.sliceBound, asIntOf, Sem.run_bind, Sem.run_pure, Result.andThen_ok]
      rw [if_pos (by omega)]; rfl
    · cases h
  · cases h

theorem pureX {o : Oper} {op : AOp} {v : V} (hc : compX P o = some op) (hp : isPure op = true) (hv : pureOp0 op tm = some v) (hG : GR P φ) (hT : TR φ tm a op.tmps) : Tells P a o φ v w := by
  obtain ⟨dst, op', type, pos, after, guard⟩ := o
  unfold compX at hc
  split at hc
  · split at hc <;> cases hc; simp [isPure] at hp
  · split at hc <;> cases hc; simp [isPure] at hp
  · split at hc <;> cases hc; simp [isPure] at hp
  · repeat' (split at hc)
    all_goals (first | (cases hc; done) | (cases hc; simp [isPure] at hp))
  · rename_i bop t x y yt heq
    simp only at heq
    subst heq
    split at hc
    · rename_i x' y' hu h1 h2
      cases hc
      have r1 := opd_rel (tm := tm) (a := a) hG h1 hT.left
      have r2 := opd_rel (tm := tm) (a := a) hG h2 hT.right
      simp only [pureOp0] at hv
      split at hv
      · rename_i s1 s2 e1 e2
        rw [e1] at r1; rw [e2] at r2
        obtain ⟨X, hX, hx⟩ := r1
        obtain ⟨Y, hY, hy⟩ := r2
        obtain ⟨Z, hZ, hr⟩ := strBin_run (P := P) (φ := φ) (t := t) hv hx hy w
        refine ⟨Z, ?_, hr⟩
        have hg : (eqGuard bop t x y (a.eval x) (a.eval y)).run P w = .ok () w := eqGuard_plain bop t x y _ _ (by rw [hX]; simp) (by rw [hX]; simp)
        rw [hX, hY] at hg
        simp [execOp, hg, binOp, hX, hY, hZ]
      · cases hv
    · cases hc
  · rename_i t x lo hi mx heq
    simp only at heq
    subst heq
    split at hc
    · rename_i e x' lo' hi' mx' hu h1 h2 h3 h4
      split at hc
      · rename_i s hs
        cases hc
        have r := opd_rel (tm := tm) (a := a) hG h1 hT.left.left.left
        have rlo := opd_rel (tm := tm) (a := a) hG h2 hT.left.left.right
        have rhi := opd_rel (tm := tm) (a := a) hG h3 hT.left.right
        have rmx := opd_rel (tm := tm) (a := a) hG h4 hT.right
        simp only [pureOp0] at hv
        split at hv
        · rename_i id off len e' e1
          rw [e1] at r
          split at hv
          · rename_i he
            subst he
            split at hv
            · cases hv
            · rename_i m hm
              split at hv
              · cases hv
              · rename_i h hh
                split at hv
                · cases hv
                · rename_i l hl
                  cases hv
                  obtain ⟨b, n, o', cap, hb, hx, hlc, hfit, ho⟩ := r
                  obtain ⟨k1, q1⟩ := boundB_run (P := P) hm rmx cap hlc .slice3Acap w
                  obtain ⟨k2, q2⟩ := boundB_run (P := P) hh rhi m (Nat.le_refl _) .slice3B w
                  obtain ⟨k3, q3⟩ := boundB_run (P := P) hl rlo h (Nat.le_refl _) .slice3C w
                  have hrun : (Instr.sliceBounds true len cap (some (a.eval lo)) (some (a.eval hi)) (some (a.eval mx))).run P w = .ok (l, h, m) w := by
                    simp only [Instr.sliceBounds, Sem.run_bind, if_true, k1, Result.andThen_ok, k2, Option.isSome_some, k3, Sem.run_pure]
                  by_cases hml : m = l
                  · subst hml
                    refine ⟨.slice (some ⟨b, o', none⟩) (h - m) (m - m), ?_, b, n, o', m - m, hb, rfl, by omega, ?_, ?_⟩
                    · simp [execOp, Instr.sliceAt, Instr.slice, run_underlying' hu, hx, hrun, run_sizeOf' hs]
                    · have : m - m = 0 := by omega
                      rw [this]; omega
                    · right; omega
                  · refine ⟨.slice (some ⟨b, o' + l * e', none⟩) (h - l) (m - l), ?_, b, n, o' + l * e', m - l, hb, rfl, by omega, ?_, ?_⟩
                    · simp [execOp, Instr.sliceAt, Instr.slice, run_underlying' hu, hx, hrun, run_sizeOf' hs, hml, addr_add]
                    · have h1 : l * e' + (m - l) * e' = m * e' := by rw [← Nat.add_mul]; congr 1; omega
                      have h2 : m * e' ≤ cap * e' := Nat.mul_le_mul_right _ (by omega)
                      omega
                    · left
                      rcases ho with rfl | ⟨rfl, rfl⟩
                      · rfl
                      · omega
          · cases hv
        · cases hv
      · cases hc
    · cases hc
  · rename_i t x heq
    simp only at heq
    subst heq
    split at hc
    · cases hc
    · rename_i d y hn hu h1
      cases hc
      have r1 := opd_rel (tm := tm) (a := a) hG h1 hT
      simp only [pureOp0, Option.some.injEq] at hv
      subst hv
      refine ⟨.iface t (a.eval x), ?_, _, rfl, r1⟩
      have hrun : (Instr.makeInterface t (a.eval x)).run P w = .ok (.iface t (a.eval x)) w := by
        simp only [Instr.makeInterface, Sem.run_bind, run_underlying' hu, Result.andThen_ok]
        cases d <;> first | rfl | exact (hn _ rfl).elim
      simp [execOp, hrun]
    · cases hc
  · rename_i name fs cs heq
    simp only at heq
    subst heq
    split at hc
    · rename_i x hfs hcs
      split at hc
      · rename_i y hy
        cases hc
        have r1 := opd_rel (tm := tm) (a := a) hG hy hT
        simp only [pureOp0] at hv
        split at hv
        · rename_i t v1 e1
          cases hv
          rw [e1] at r1
          obtain ⟨Y, hY, hr⟩ := r1
          refine ⟨.func (.method name) #[.iface t Y] #[], ?_, Y, rfl, hr⟩
          have e1 : fs = #[x] := by cases fs; simp_all
          have e2 : cs = #[] := by cases cs; simp_all
          subst e1; subst e2
          simp [execOp, Instr.makeFunc, hY]
        · cases hv
      · cases hc
    · cases hc
  · split at hc
    · split at hc
      · cases hc; simp [isPure] at hp
      · cases hc
    · cases hc
  · repeat' (split at hc)
    all_goals (first | (cases hc; done) | (cases hc; simp [isPure] at hp))
  · cases hc
theorem tblGet_mem {t : TypeId} {f : FuncId} : ∀ {l : List (TypeId × FuncId)}, tblGet t l = some f → (t, f) ∈ l
  | [], h => by simp [tblGet] at h
  | (u, g) :: r, h => by
    simp only [tblGet] at h
    split at h
    · rename_i e; cases h; subst e; exact List.mem_cons_self
    · exact List.mem_cons_of_mem _ (tblGet_mem h)

theorem methTbl_spec {name : String} {t : TypeId} {f : FuncId} (h : tblGet t (methTbl P name) = some f) : t < P.types.size ∧ methRow P name t = some f := by
  have hm := tblGet_mem h
  unfold methTbl at hm
  rw [List.mem_filterMap] at hm
  obtain ⟨u, hu, hf⟩ := hm
  split at hf
  · rename_i g hg
    cases hf
    exact ⟨List.mem_range.1 hu, hg⟩
  · cases hf

theorem methRow_spec {name : String} {t : TypeId} {f : FuncId} (h : methRow P name t = some f) : ∃ i m, P.info? t = some i ∧ i.methods.find? (·.name == name) = some m ∧ m.path = #[] ∧
    ((m.func = some (f, true) ∧ ∃ e, P.underlying t = some (.pointer e)) ∨ (m.func = some (f, false) ∧ ∃ fs, P.underlying t = some (.struct fs))) := by
  unfold methRow at h
  split at h
  · rename_i i hi
    split at h
    · rename_i m hm
      split at h
      · rename_i hp
        have hp : m.path = #[] := by simpa using hp
        split at h
        · rename_i f' e hf hu; cases h; exact ⟨i, m, hi, hm, hp, .inl ⟨hf, e, hu⟩⟩
        · rename_i f' fs hf hu; cases h; exact ⟨i, m, hi, hm, hp, .inr ⟨hf, fs, hu⟩⟩
        · cases h
      · cases h
    · cases h
  · cases h

theorem method_run {name : String} {t : TypeId} {f : FuncId} (h : tblGet t (methTbl P name) = some f) (X : Value) (w : World) : (method (P.types.size + Made.depth) t X name).run P w = .ok (f, X) w := by
  obtain ⟨hlt, hr⟩ := methTbl_spec h
  obtain ⟨i, m, hi, hm, hp, hc⟩ := methRow_spec hr
  obtain ⟨k, hk⟩ : ∃ k, P.types.size + Made.depth = k + 1 := ⟨P.types.size + Made.depth - 1, by have h0 : 0 < P.types.size := Nat.lt_of_le_of_lt (Nat.zero_le _) hlt; omega⟩
  rw [hk]
  have hti : (typeInfo t).run P w = .ok i w := by simp [typeInfo, program, Sem.run, hi, Result.andThen]
  simp only [method, Sem.run_bind, hti, Result.andThen_ok]
  rw [hm]
  simp only [hp]
  rcases hc with ⟨hf, e, hu⟩ | ⟨hf, fs, hu⟩
  · simp [follow, hf, receiverAt, run_underlying' hu, Place.get]
  · simp [follow, hf, receiverAt, run_underlying' hu, Place.get]

theorem nilAhead_run {name : String} {t : TypeId} {f : FuncId} (h : tblGet t (methTbl P name) = some f) (X : Value) (w : World) : (nilAhead (P.types.size + Made.depth) t X name).run P w = .ok (some false) w := by
  obtain ⟨hlt, hr⟩ := methTbl_spec h
  obtain ⟨i, m, hi, hm, hp, hc⟩ := methRow_spec hr
  obtain ⟨k, hk⟩ : ∃ k, P.types.size + Made.depth = k + 1 := ⟨P.types.size + Made.depth - 1, by have h0 : 0 < P.types.size := Nat.lt_of_le_of_lt (Nat.zero_le _) hlt; omega⟩
  rw [hk]
  have hti : (typeInfo t).run P w = .ok i w := by simp [typeInfo, program, Sem.run, hi, Result.andThen]
  simp only [nilAhead, Sem.run_bind, hti, Result.andThen_ok]
  rw [hm]
  simp only [hp]
  rcases hc with ⟨hf, e, hu⟩ | ⟨hf, fs, hu⟩
  · simp [followBlind, hf]
  · simp [followBlind, hf, run_underlying' hu]

theorem pureM {ops : Array Oper} {o : Oper} {op : AOp} {v : V} (hc : compM P ops o = some op) (hp : isPure op = true) (hv : pureOp0 op tm = some v) (hG : GR P φ) (hT : TR φ tm a op.tmps) : Tells P a o φ v w := by
  obtain ⟨dst, op', type, pos, after, guard⟩ := o
  unfold compM at hc
  split at hc
  · rename_i t heq
    simp only at heq
    subst heq
    split at hc
    · split at hc
      · rename_i q _ name _ _ _
        cases hc
        have r1 : VR φ ((tm.get t).getD .undef) (a.eval (.tmp t)) := hT t (by simp [AOp.tmps, Opd.tmps])
        have r1 := r1.norm
        simp only [pureOp0] at hv
        split at hv
        · rename_i nm u v1 e1
          have e1 : norm ((tm.get t).getD .undef) = .mval nm u v1 := e1
          rw [e1] at r1
          split at hv
          · rename_i hcond
            obtain ⟨rfl, htb⟩ := hcond
            cases hv
            obtain ⟨Y, hY, hr⟩ := r1
            obtain ⟨f, hf⟩ := Option.isSome_iff_exists.1 htb
            refine ⟨_, ?_, Y, rfl, hr⟩
            have hna := nilAhead_run (P := P) hf Y w
            simp only [execOp, hY]
            simp [hna, program, Sem.run]
          · cases hv
        · cases hv
      · cases hc
    · cases hc
  · repeat' (split at hc)
    all_goals (first | (cases hc; done) | (cases hc; simp [isPure] at hp))
  · cases hc

theorem pureC {o : Oper} {op : AOp} {v : V} (hc : compC P o = some op) (hp : isPure op = true) (hv : pureOp0 op tm = some v) (hG : GR P φ) (hT : TR φ tm a op.tmps) : Tells P a o φ v w := by
  obtain ⟨dst, op', type, pos, after, guard⟩ := o
  unfold compC at hc
  split at hc
  · rename_i t x lo hi heq
    simp only at heq
    subst heq
    split at hc
    · rename_i e x' lo' hi' hu h1 h2 h3
      split at hc
      · rename_i s hs
        cases hc
        have r := opd_raw (tm := tm) (a := a) hG h1 hT.left.left
        have o2 : OR φ (lo'.map (·.eval tm)) (lo.map a.eval) := by
          rcases oopd_rel (tm := tm) (a := a) hG h2 hT.left.right with ⟨rfl, rfl⟩ | ⟨u, v, rfl, rfl, hr⟩
          · exact .inl ⟨rfl, rfl⟩
          · exact .inr ⟨_, _, rfl, rfl, hr⟩
        have o3 : OR φ (hi'.map (·.eval tm)) (hi.map a.eval) := by
          rcases oopd_rel (tm := tm) (a := a) hG h3 hT.right with ⟨rfl, rfl⟩ | ⟨u, v, rfl, rfl, hr⟩
          · exact .inl ⟨rfl, rfl⟩
          · exact .inr ⟨_, _, rfl, rfl, hr⟩
        simp only [pureOp0] at hv
        split at hv
        · rename_i ad len e' c e1
          have hx : (ad = none ∧ len = 0 ∧ c = 0 ∧ a.eval x = .slice none 0 0) ∨ ∃ id off, ad = some (id, off) ∧ ∃ b n o' cap, φ id = some (b, n) ∧ a.eval x = .slice (some ⟨b, o', none⟩) len cap ∧ len ≤ c ∧ c ≤ cap ∧ o' + cap * e' ≤ n ∧ (o' = off ∨ (len = 0 ∧ cap = 0)) := by
            generalize x'.raw tm = rv at e1 r
            cases rv with
            | slice q l z =>
              simp only [capOf, Option.some.injEq, Prod.mk.injEq] at e1
              obtain ⟨rfl, rfl, rfl, rfl⟩ := e1
              cases q with
              | none => obtain ⟨h0, hh⟩ := r; exact .inl ⟨rfl, h0, h0, hh⟩
              | some q =>
                obtain ⟨id, off⟩ := q
                obtain ⟨b, n, o', cap, hb, hx, hlc, hfit, ho⟩ := r
                exact .inr ⟨id, off, rfl, b, n, o', cap, hb, hx, Nat.le_refl _, hlc, hfit, ho⟩
            | sliceC q l z c0 =>
              simp only [capOf, Option.some.injEq, Prod.mk.injEq] at e1
              obtain ⟨rfl, rfl, rfl, rfl⟩ := e1
              obtain ⟨id, off⟩ := q
              obtain ⟨b, n, o', cap, hb, hx, h1, h2, hfit, ho⟩ := r
              exact .inr ⟨id, off, rfl, b, n, o', cap, hb, hx, h1, h2, hfit, ho⟩
            | _ => simp [capOf] at e1
          split at hv
          · rename_i l h hsb
            rcases hx with ⟨rfl, rfl, rfl, hx⟩ | ⟨id, off, rfl, b, n, o', cap, hb, hx, h1, h2, hfit, ho⟩
            · simp at hv; subst hv
              obtain ⟨hrun, hlh, hh⟩ := sliceB_rel (P := P) (w := w) (cap' := 0) (Nat.le_refl _) hsb o2 o3 true
              have h0 : h = 0 := by omega
              have l0 : l = 0 := by omega
              subst h0; subst l0
              refine ⟨.slice none 0 0, ?_, rfl, rfl⟩
              simp [execOp, Instr.sliceAt, Instr.slice, run_underlying' hu, hx, hrun, run_sizeOf' hs]
            · simp only at hv
              split at hv
              · rename_i he; subst he
                cases hv
                obtain ⟨hrun, hlh, hh⟩ := sliceB_rel (P := P) (w := w) h2 hsb o2 o3 true
                have hhc : h ≤ c := by omega
                have mk : ∀ (oo cc : Nat), h - l ≤ cc → c - l ≤ cc → oo + cc * e' ≤ n → (oo = off + l * e' ∨ (h - l = 0 ∧ cc = 0)) → VR φ (mkC (id, off + l * e') (h - l) e' (c - l)) (.slice (some ⟨b, oo, none⟩) (h - l) cc) := by
                  intro oo cc k1 k2 k3 k4
                  unfold mkC
                  split
                  · exact ⟨b, n, oo, cc, hb, rfl, k1, k3, k4⟩
                  · exact ⟨b, n, oo, cc, hb, rfl, by omega, k2, k3, k4⟩
                by_cases hcl : cap = l
                · subst hcl
                  refine ⟨.slice (some ⟨b, o', none⟩) (h - cap) (cap - cap), ?_, mk o' (cap - cap) (by omega) (by omega) ?_ (.inr ⟨by omega, by omega⟩)⟩
                  · simp [execOp, Instr.sliceAt, Instr.slice, run_underlying' hu, hx, hrun, run_sizeOf' hs]
                  · have : cap - cap = 0 := by omega
                    rw [this]; omega
                · refine ⟨.slice (some ⟨b, o' + l * e', none⟩) (h - l) (cap - l), ?_, mk (o' + l * e') (cap - l) (by omega) (by omega) ?_ ?_⟩
                  · simp [execOp, Instr.sliceAt, Instr.slice, run_underlying' hu, hx, hrun, run_sizeOf' hs, hcl, addr_add]
                  · have : l * e' + (cap - l) * e' = cap * e' := by rw [← Nat.add_mul]; congr 1; omega
                    omega
                  · left
                    rcases ho with rfl | ⟨rfl, rfl⟩
                    · rfl
                    · omega
              · cases hv
          · cases hv
        · cases hv
      · cases hc
    · cases hc
  · repeat' (split at hc)
    all_goals (first | (cases hc; done) | (cases hc; simp [isPure] at hp))
  · cases hc

theorem readX {o : Oper} {op : AOp} {v : V} (hc : compX P o = some op) (hp : isRead op = true) (hv : readOp0 op tm σ = some v) (hG : GR P φ) (hT : TR φ tm a op.tmps) (hR : Rel G B w0 φ σ w) : Tells P a o φ v w := by
  obtain ⟨dst, op', type, pos, after, guard⟩ := o
  unfold compX at hc
  split at hc
  · split at hc <;> cases hc; simp [isRead] at hp
  · rename_i x heq
    simp only at heq
    subst heq
    split at hc
    · rename_i y hy
      cases hc
      have r := opd_rel (tm := tm) (a := a) hG hy hT
      simp only [readOp0] at hv
      split at hv
      · rename_i q e0
        rw [e0] at r
        obtain ⟨b, n, hb, hx⟩ := r
        split at hv
        · rename_i m since seen last ho
          split at hv
          · rename_i es bs ck hmo
            obtain ⟨hB, rb, kk, e', hm, hh, hs⟩ := hR.obj _ _ b n ho hb
            obtain ⟨hBm, M, hM, hER, hbs⟩ := hR.mapObj hmo hm
            split at hv
            · rename_i bb hbb
              split at hv
              · rename_i hck
                subst hck
                split at hv
                · rename_i k u hf
                  cases hv
                  obtain ⟨e, he, h1, h2⟩ := findB_spec hbs hER hf
                  refine ⟨.tuple #[e.key, e.val], ?_, _, rfl, LR.cons h1 (LR.cons h2 LR.nil)⟩
                  have hback : e'.back? = some bb := by rw [← hs] at hbb; simpa using hbb
                  have hfind : M.find? (·.born == bb) = some e := by rw [← Array.find?_toList]; exact he
                  have hrun : (Instr.entry (.pointer (some ⟨b, 0, none⟩))).run P w = .ok (.tuple #[e.key, e.val]) w := by
                    simp only [Instr.entry, getObj, Sem.run_bind, Sem.run, hh, hM, Result.andThen, hback, bne_self_eq_false, Bool.false_eq_true, if_false, hfind]
                    rfl
                  simp [execOp, hx, hrun]
                · cases hv
              · cases hv
            · cases hv
          · cases hv
        · cases hv
      · cases hv
    · cases hc
  · split at hc <;> cases hc; simp [isRead] at hp
  · rename_i s d x heq
    simp only at heq
    subst heq
    split at hc
    · rename_i e x' hs hd h1
      split at hc
      · rename_i hbt
        cases hc
        have he := isByte_spec hbt
        have r := opd_rel (tm := tm) (a := a) hG h1 hT
        simp only [readOp0] at hv
        split at hv
        · rename_i l0 e0 e1
          cases hv
          rw [e1] at r
          obtain ⟨h0, hx⟩ := r
          refine ⟨.string .empty, ?_, .empty, rfl, rfl⟩
          simp [execOp, hx, run_convert_bytes_string (P := P) w s d e none 0 0 hs he hd, Conv.bytesToString]
        · rename_i id off len e0 e1
          rw [e1] at r
          obtain ⟨b, n, o', cap, hb, hx, hlc, hfit, ho⟩ := r
          have key : ∀ (l : List UInt8), len = l.length → (loadCells ⟨b, o', none⟩ len).run P w = .ok (l.map fun b => Value.int .u8 b.toNat).toArray w →
              (execOp a.eval ⟨dst, .convert s d x, type, pos, after, guard⟩).run P w = .ok (.value (.string ⟨l.toArray⟩)) w := by
            intro l hl hrun
            have h2 := run_bytesToString (P := P) w ⟨b, o', none⟩ len cap (l.map fun b => (b.toNat : Int)) (by rw [hrun]; simp [Function.comp_def])
            rw [foldl_push_byteCells] at h2
            have h3 : (⟨ByteArray.empty.data ++ l.toArray⟩ : ByteArray) = ⟨l.toArray⟩ := by
              have h4 : ByteArray.empty.data = #[] := rfl
              rw [h4, Array.empty_append]
            rw [h3] at h2
            simp [execOp, hx, run_convert_bytes_string (P := P) w s d e _ _ _ hs he hd, h2]
          split at hv
          · rename_i hl
            cases hv
            refine ⟨.string ⟨#[]⟩, ?_, ⟨#[]⟩, rfl, rfl⟩
            have := key [] (by simpa using hl) (by rw [hl]; simp [loadCells, loadCellsFrom])
            simpa using this
          · rename_i hl
            split at hv
            · rename_i vs hvs
              split at hv
              · rename_i str hstr
                cases hv
                have ho' : o' = off := by rcases ho with h | ⟨h, _⟩; exact h; exact (hl h).elim
                subst ho'
                obtain ⟨xs, hr, hlen, hcell⟩ := hR.load hvs hb
                obtain ⟨l, rfl, hls⟩ := bytesV_spec hstr hr
                have hld := run_loadCells_list (P := P) w ⟨b, o', none⟩ _ hcell
                simp only [List.length_map] at hlen hld
                rw [hlen] at hld
                exact ⟨.string ⟨l.toArray⟩, key l hlen.symm hld, ⟨l.toArray⟩, rfl, by simpa using hls⟩
              · cases hv
            · cases hv
        · cases hv
      · cases hc
    · split at hc <;> cases hc; simp [isRead] at hp
    · split at hc <;> cases hc; simp [isRead] at hp
    · cases hc
  · split at hc <;> cases hc; simp [isRead] at hp
  · repeat' (split at hc)
    all_goals (first | (cases hc; done) | (cases hc; simp [isRead] at hp))
  · repeat' (split at hc)
    all_goals (first | (cases hc; done) | (cases hc; simp [isRead] at hp))
  · repeat' (split at hc)
    all_goals (first | (cases hc; done) | (cases hc; simp [isRead] at hp))
  · repeat' (split at hc)
    all_goals (first | (cases hc; done) | (cases hc; simp [isRead] at hp))
  · repeat' (split at hc)
    all_goals (first | (cases hc; done) | (cases hc; simp [isRead] at hp))
  · cases hc

theorem modify_set {A : Array Go.Obj} {b : Nat} {o : Go.Obj} (f : Go.Obj → Go.Obj) (h : A[b]? = some o) : A.modify b f = A.setIfInBounds b (f o) := by
  apply Array.ext
  · simp
  · intro i h1 h2
    simp only [Array.getElem_modify, Array.getElem_setIfInBounds]
    by_cases c : b = i
    · subst c
      have h3 : b < A.size := by simpa using h1
      have : A[b]'h3 = o := by
        rw [Array.getElem?_eq_getElem h3] at h; simpa using h
      simp [this]
    · have h3 : i < A.size := by simpa using h1
      rw [Array.getElem_setIfInBounds_ne h3 c]; simp [c]

theorem writeX {o : Oper} {op : AOp} {v : V} (hc : compX P o = some op) (hw : isWrite op = true) (hv : writeOp0 op tm σ = some (v, σ')) (hG : GR P φ) (hT : TR φ tm a op.tmps) (hR : Rel G B w0 φ σ w) : Does P a o G B w0 φ σ' v w := by
  obtain ⟨dst, op', type, pos, after, guard⟩ := o
  unfold Does
  unfold compX at hc
  split at hc
  · rename_i t x heq
    simp only at heq
    subst heq
    split at hc
    · rename_i kt e x' hu h1
      cases hc
      have r1 := opd_rel (tm := tm) (a := a) hG h1 hT
      simp only [writeOp0] at hv
      split at hv
      · rename_i e0
        rw [e0] at r1
        have r1 : a.eval x = .map none := r1
        simp only [Option.some.injEq, Prod.mk.injEq] at hv
        obtain ⟨rfl, rfl⟩ := hv
        have hnew := hR.new (.iter none 0 [] 0) (.mapIter none 0 #[] 0) 0 rfl (.inr trivial) ⟨hR.B_le, 0, #[], 0, heap_alloc_new w _⟩
        refine ⟨_, _, _, .inl ?_, hnew.2, hnew.1, w.heap.size, 0, Phi.upd_same _ _ _, rfl⟩
        simp [execOp, Instr.range, run_underlying' hu, r1]
      · rename_i q e0
        rw [e0] at r1
        obtain ⟨b, n, hb, hm⟩ := r1
        split at hv
        · rename_i es bs clock ho
          simp only [Option.some.injEq, Prod.mk.injEq] at hv
          obtain ⟨rfl, rfl⟩ := hv
          obtain ⟨hB, M, hM, hER, hbs⟩ := hR.mapObj ho hb
          have hnn := hR.next_none
          have hnew := hR.new (.iter (some q) clock [] clock) (.mapIter (some b) clock #[] clock) 0 rfl (.inr trivial) ⟨hR.B_le, b, n, #[], φ.le_upd _ hnn _ _ hb, heap_alloc_new w _, rfl⟩
          refine ⟨_, _, _, .inl ?_, hnew.2, hnew.1, w.heap.size, 0, Phi.upd_same _ _ _, rfl⟩
          simp [execOp, Instr.range, run_underlying' hu, hm, run_getObj_map hM]
        · cases hv
      · cases hv
    · cases hc
  · split at hc <;> cases hc; simp [isWrite] at hw
  · split at hc <;> cases hc; simp [isWrite] at hw
  · rename_i s d x heq
    simp only at heq
    subst heq
    split at hc
    · split at hc <;> cases hc; simp [isWrite] at hw
    · rename_i e0 e x' hs hd h1
      split at hc
      · rename_i hcond
        obtain ⟨rfl, hbt⟩ := hcond
        cases hc
        have he := isByte_spec hbt
        have r := opd_rel (tm := tm) (a := a) hG h1 hT
        simp only [writeOp0] at hv
        split at hv
        · rename_i id off len e' e1
          have r0 := r
          rw [e1] at r
          obtain ⟨b, n, o', cap, hb, hx, hlc, hfit, ho⟩ := r
          split at hv
          · rename_i nn z t hob
            simp only [Option.some.injEq, Prod.mk.injEq] at hv
            obtain ⟨rfl, rfl⟩ := hv
            obtain ⟨C, E, fz, h1', h2, h3, h4, h5⟩ := hR.obj _ _ b n hob hb
            obtain ⟨rfl, hBb⟩ := h3 rfl
            have hset := hR.setObj (o' := .cells true 0 nn z t) (O := .cells C E (C.size, C.size + 1)) hob rfl rfl hb hBb rfl (fun hs' => ⟨C, E, _, hs', h2, (fun h => by cases h), h4, h5⟩)
            refine ⟨a.eval x, _, φ, .inl ?_, Phi.le.refl _, hset, by rw [← e1]; exact r0⟩
            have hsh : w.shape? b = some (E, C.size) := by unfold World.shape?; rw [h1']
            have hfr : w.freeze ⟨b, C.size, none⟩ 1 = { w with heap := w.heap.setIfInBounds b (.cells C E (C.size, C.size + 1)) } := by
              unfold World.freeze
              rw [if_neg (by decide)]
              congr 1
              rw [modify_set _ h1']
              rfl
            simp [execOp, convert, run_underlying' hd, run_underlying' he, hx, markStringish, hsh, hfr]
          · cases hv
        · cases hv
      · cases hc
    · rename_i e x' hs hd h1
      split at hc
      · rename_i hbt
        cases hc
        have he := isByte_spec hbt
        have r := opd_rel (tm := tm) (a := a) hG h1 hT
        simp only [writeOp0] at hv
        split at hv
        · rename_i str e1
          simp only [Option.some.injEq, Prod.mk.injEq] at hv
          obtain ⟨rfl, rfl⟩ := hv
          rw [e1] at r
          obtain ⟨bs, hx, hbs⟩ := r
          have hrun := run_bytes_of_string (P := P) w s d e bs hs hd he
          have hRd := hR.drew
          have hsz : bs.size = bs.data.size := rfl
          have hlen : str.length = bs.size := by rw [← hbs, List.length_map, Array.length_toList]; rfl
          have hge : bs.size ≤ grownCap w bs.size 0 e := grownCap_ge _ _ _ _
          generalize grownCap w bs.size 0 e = cap at hrun hge
          have hnew := hRd.new (.cells true 0 str.length [] (ofList (str.map fun b => V.int .u8 (Int.ofNat b)))) (.cells (bytesRow bs cap) e ((bytesRow bs cap).size, (bytesRow bs cap).size + 1)) (bytesRow bs cap).size rfl (.inr trivial) (by
            refine ⟨bytesRow bs cap, e, _, heap_alloc_new _ _, rfl, (fun h => by cases h), ?_, ?_⟩
            · simp [bytesRow]; omega
            · intro i v hi
              have h2 : cellOf (str.map fun b => V.int .u8 (Int.ofNat b)).length [] (ofList (str.map fun b => V.int .u8 (Int.ofNat b))) i = some v := by simpa using hi
              rw [cellOf_ofList] at h2
              rw [List.getElem?_map] at h2
              have hilt : i < bs.data.size := by
                rcases Nat.lt_or_ge i str.length with q | q
                · omega
                · rw [List.getElem?_eq_none q] at h2; cases h2
              rw [← hbs, List.getElem?_map] at h2
              have h3 : bs.data.toList[i]? = some (bs.data[i]'hilt) := by rw [Array.getElem?_toList, Array.getElem?_eq_getElem hilt]
              rw [h3] at h2
              simp at h2; subst h2
              refine ⟨.int .u8 bs.data[i].toNat, ?_, rfl⟩
              unfold bytesRow
              rw [Array.getElem?_append_left (by simpa using hilt), Array.getElem?_map, Array.getElem?_eq_getElem hilt]; rfl)
          refine ⟨.slice (some ⟨w.heap.size, 0, none⟩) bs.size cap, _, _, .inl ?_, hnew.2, hnew.1, w.heap.size, (bytesRow bs cap).size, 0, cap, Phi.upd_same _ _ _, ?_, by omega, ?_, .inl rfl⟩
          · simp only [execOp, hx, Sem.run_bind, hrun, Result.andThen_ok]
            rfl
          · rw [hlen]
          · simp [bytesRow]; omega
        · cases hv
      · cases hc
    · cases hc
  · split at hc <;> cases hc; simp [isWrite] at hw
  · repeat' (split at hc)
    all_goals (first | (cases hc; done) | (cases hc; simp [isWrite] at hw))
  · repeat' (split at hc)
    all_goals (first | (cases hc; done) | (cases hc; simp [isWrite] at hw))
  · repeat' (split at hc)
    all_goals (first | (cases hc; done) | (cases hc; simp [isWrite] at hw))
  · repeat' (split at hc)
    all_goals (first | (cases hc; done) | (cases hc; simp [isWrite] at hw))
  · repeat' (split at hc)
    all_goals (first | (cases hc; done) | (cases hc; simp [isWrite] at hw))
  · cases hc

theorem eqV_ptr {u v : V} {r : Bool} (h : eqV .ptr u v = some r) : (u = .ptr none ∧ ∃ q, v = .ptr q ∧ r = q.isNone) ∨ (∃ p, u = .ptr (some p) ∧ v = .ptr none ∧ r = false) := by
  cases u with
  | ptr p =>
    cases p with
    | none =>
      cases v with
      | ptr q => exact .inl ⟨rfl, q, rfl, by simp only [eqV, Option.some.injEq] at h; exact h.symm⟩
      | _ => simp [eqV] at h
    | some p =>
      cases v with
      | ptr q =>
        cases q with
        | none => exact .inr ⟨p, rfl, rfl, by simp only [eqV, Option.some.injEq] at h; exact h.symm⟩
        | some q => simp [eqV] at h
      | _ => simp [eqV] at h
  | _ => simp [eqV] at h

theorem readM {ops : Array Oper} {o : Oper} {op : AOp} {v : V} (hc : compM P ops o = some op) (hp : isRead op = true) (hv : readOp0 op tm σ = some v) (hG : GR P φ) (hT : TR φ tm a op.tmps) (hR : Rel G B w0 φ σ w) : Tells P a o φ v w := by
  obtain ⟨dst, op', type, pos, after, guard⟩ := o
  unfold compM at hc
  split at hc
  · repeat' (split at hc)
    all_goals (first | (cases hc; done) | (cases hc; simp [isRead] at hp))
  · rename_i bop t x y yt heq
    simp only at heq
    subst heq
    split at hc
    · rename_i e hu
      split at hc
      · rename_i hcond
        obtain ⟨hop, hcx, hcy, hsz⟩ := hcond
        split at hc
        · rename_i x' y' h1 h2
          cases hc
          have r1 := opd_rel (tm := tm) (a := a) hG h1 hT.left
          have r2 := opd_rel (tm := tm) (a := a) hG h2 hT.right
          obtain ⟨sz, hs, hsz⟩ : ∃ n, szOf P e = some n ∧ n ≠ 0 := by
            cases h : szOf P e with
            | none => rw [h] at hsz; simp at hsz
            | some n => rw [h] at hsz; exact ⟨n, rfl, by simpa using Nat.ne_of_gt hsz⟩
          have fin : ∀ (X Y : Value) (r : Bool), a.eval x = X → a.eval y = Y → (∃ p, X = .pointer p) → (∀ d, (Op.equalIn (d + 1) t X Y).run P w = .ok r w) → v = .bool (if (bop == .neq) then !r else r) →
              Tells P a ⟨dst, .binOp bop t x y yt, type, pos, after, guard⟩ φ v w := by
            rintro X Y r hX hY ⟨p, rfl⟩ hrun rfl
            refine ⟨.bool (if (bop == .neq) then !r else r), ?_, rfl⟩
            have hg : (eqGuard bop t x y (a.eval x) (a.eval y)).run P w = .ok () w := eqGuard_plain bop t x y _ _ (by rw [hX]; simp) (by rw [hX]; simp)
            have hb := run_eql_of (P := P) (w := w) (t := t) (X := .pointer p) (Y := Y) (r := r) hop (hrun 9999) (by simp) (by simp) (by simp) (by simp)
            rw [hX, hY] at hg
            simp only [execOp, hX, hY, Sem.run_bind, hg, Result.andThen_ok, hb]
            rfl
          simp only [readOp0] at hv
          split at hv
          · rename_i i oi j oj e1 e2
            rw [e1] at r1; rw [e2] at r2
            obtain ⟨b1, n1, hb1, hx⟩ := r1
            obtain ⟨b2, n2, hb2, hy⟩ := r2
            split at hv
            · rename_i hij
              subst hij
              rw [hb1] at hb2; cases hb2
              cases hv
              refine fin _ _ (oi == oj) hx hy ⟨_, rfl⟩ ?_ rfl
              have h3 : (sameAddr ⟨b1, oi, none⟩ ⟨b1, oj, none⟩).run P w = .ok (oi == oj) w := by
                simp only [sameAddr, beq_self_eq_true, if_true, Sem.run_pure]
                have : ((⟨b1, oi, none⟩ : Addr) == ⟨b1, oj, none⟩) = (oi == oj) := by
                  by_cases c : oi = oj
                  · subst c; simp
                  · have h4 : (⟨b1, oi, none⟩ : Addr) ≠ ⟨b1, oj, none⟩ := by intro h; cases h; exact c rfl
                    rw [beq_eq_false_iff_ne.2 c, beq_eq_false_iff_ne.2 h4]
                rw [this]
              intro d
              simp [Op.equalIn, run_underlying' hu, run_sizeOf' hs, hsz, h3]
            · rename_i hij
              split at hv
              · rename_i k1 z1 t1 g2 k2 z2 t2 ho1 ho2
                cases hv
                obtain ⟨C1, E1, fz1, p1, p2, p3, _⟩ := hR.obj _ _ _ _ ho1 hb1
                obtain ⟨C2, E2, fz2, q1, q2, q3, _⟩ := hR.obj _ _ _ _ ho2 hb2
                obtain ⟨rfl, _⟩ := p3 rfl
                obtain ⟨rfl, _⟩ := q3 rfl
                have hbb : b1 ≠ b2 := by
                  rintro rfl
                  exact (hR.sep i j _ _ b1 n1 n2 hij ho1 ho2 rfl rfl hb1 hb2).1 rfl
                refine fin _ _ false hx hy ⟨_, rfl⟩ ?_ (by rcases hop with rfl | rfl <;> rfl)
                have h3 := run_sameAddr_other (P := P) (w := w) (a := ⟨b1, oi, none⟩) (b := ⟨b2, oj, none⟩) (by intro h; cases h; exact hbb rfl) p1 q1
                intro d
                simp [Op.equalIn, run_underlying' hu, run_sizeOf' hs, hsz, h3]
              · cases hv
          · split at hv
            · rename_i u v1 hno bb hbb
              cases hv
              rcases eqV_ptr hbb with ⟨e1, q, e2, rfl⟩ | ⟨q, e1, e2, rfl⟩
              · rw [e1] at r1; rw [e2] at r2
                have r1 : a.eval x = .pointer none := r1
                cases q with
                | none =>
                  have r2 : a.eval y = .pointer none := r2
                  exact fin _ _ true r1 r2 ⟨_, rfl⟩ (fun d => by simp [Op.equalIn, run_underlying' hu]) rfl
                | some q =>
                  obtain ⟨q1, q2⟩ := q
                  obtain ⟨b2, n2, hb2, hy⟩ := r2
                  exact fin _ _ false r1 hy ⟨_, rfl⟩ (fun d => by simp [Op.equalIn, run_underlying' hu]) rfl
              · obtain ⟨q1, q2⟩ := q
                rw [e1] at r1; rw [e2] at r2
                obtain ⟨b1, n1, hb1, hx⟩ := r1
                have r2 : a.eval y = .pointer none := r2
                exact fin _ _ false hx r2 ⟨_, rfl⟩ (fun d => by simp [Op.equalIn, run_underlying' hu]) rfl
            · cases hv
        · cases hc
      · cases hc
    · cases hc
  · cases hc

theorem appendIn_sound {ats : Array TypeId} {t u e e2 type : TypeId} {s bs : Nat} {X Y : Value} {x y v : V} (hat : ats[0]? = some t) (hat1 : ats[1]? = some u) (hu : P.underlying t = some (.slice e)) (hu2 : P.underlying u = some (.slice e2)) (hs : szOf P e = some s) (hb : bytesOf P e = some bs)
    (hv : appendIn σ s bs x y = some (v, σ')) (r1 : VR φ x X) (r2 : VR φ y Y) (hR : Rel G B w0 φ σ w) : ∃ Z w', (Builtin.append_ ats type #[X, Y]).run P w = .ok Z w' ∧ Rel G B w0 φ σ' w' ∧ VR φ v Z := by
  unfold appendIn at hv
  split at hv
  · rename_i ad l e' c ya ye
    split at hv
    · rename_i hcond
      obtain ⟨rfl, hpos⟩ := hcond
      cases hv
      have r10 := r1
      obtain ⟨id, off⟩ := ad
      obtain ⟨b, n, o', cap, hb1, rfl, h1, h2, hfit, ho⟩ := r1
      have hy : ∃ ad c, Y = .slice ad 0 c := by
        cases ya with
        | none => exact ⟨_, _, r2.2⟩
        | some q => obtain ⟨b0, n0, o0, c0, _, hh, _⟩ := r2; exact ⟨_, _, hh⟩
      obtain ⟨ad, c0, rfl⟩ := hy
      obtain ⟨i, hi, hsi⟩ := szOf_info hs
      have hf : ∀ w : World, (Builtin.firstCells i.size 0 (.slice ad 0 c0)).run P w = .ok #[] w := by
        intro w; cases ad <;> simp [Builtin.firstCells, loadCells, loadCellsFrom]
      have hle : l ≤ cap := by omega
      refine ⟨_, w, ?_, hR, r10⟩
      simp [Builtin.append_, hat, hat1, run_underlying' hu, run_underlying' hu2, Go.sizeOf, typeInfo, hi, Builtin.lenOf, hle, hf, storeCells]
    · cases hv
  · rename_i id off l e' c jd joff k ye hno
    split at hv
    · rename_i hcond
      obtain ⟨rfl, hpos, hk, hlc, hb1, hb2⟩ := hcond
      split at hv
      · rename_i vs hvs
        split at hv
        · rename_i σ2 hst
          cases hv
          obtain ⟨b, n, o', cap, hbx, rfl, h1, h2, hfit, ho⟩ := r1
          obtain ⟨b0, n0, o0, c0, hb0, rfl, hlc0, hfit0, ho0⟩ := r2
          have ho : o' = off := by rcases ho with h | ⟨h, h'⟩; exact h; omega
          subst ho
          have ho0 : o0 = joff := by rcases ho0 with h | ⟨h, _⟩; exact h; omega
          subst ho0
          obtain ⟨xs, hr, hlen, hcell⟩ := hR.load hvs hb0
          simp only [maxLenBytes] at hb1 hb2
          have happ := app_slice (P := P) (w := w) (c := c0) (base := some ⟨b, o', none⟩) (sLen := l) (sCap := cap) (ty := type) hat1 hu2 hs hb hlen hcell (by omega) (by omega) hat hu
          rw [if_pos (by omega)] at happ
          obtain ⟨w', hrun, hR'⟩ := hR.store (P := P) hst hbx hr
          refine ⟨.slice (some ⟨b, o', none⟩) (l + k) cap, w', ?_, hR', ?_⟩
          · rw [happ]
            simp only [add_none, hrun, Result.andThen_ok]
          · unfold mkC
            split
            · exact ⟨b, n, o', cap, hbx, rfl, by omega, hfit, .inl rfl⟩
            · exact ⟨b, n, o', cap, hbx, rfl, by omega, h2, hfit, .inl rfl⟩
        · cases hv
      · cases hv
    · cases hv
  · cases hv

theorem writeC {o : Oper} {op : AOp} {v : V} (hc : compC P o = some op) (hw : isWrite op = true) (hv : writeOp0 op tm σ = some (v, σ')) (hG : GR P φ) (hT : TR φ tm a op.tmps) (hR : Rel G B w0 φ σ w) : Does P a o G B w0 φ σ' v w := by
  obtain ⟨dst, op', type, pos, after, guard⟩ := o
  unfold compC at hc
  split at hc
  · repeat' (split at hc)
    all_goals (first | (cases hc; done) | (cases hc; simp [isWrite] at hw))
  · rename_i c heq
    simp only at heq
    subst heq
    obtain ⟨callee, args, ats⟩ := c
    split at hc
    · rename_i hcal
      simp only at hcal
      subst hcal
      simp only at hc
      split at hc
      · rename_i t u x y hat hat1 hargs
        split at hc
        · rename_i e e2 hu hu2
          split at hc
          · rename_i s bs z x' y' hs hb hz h1 h2
            cases hc
            simp only [writeOp0] at hv
            have hT1 : TR φ tm a x'.tmps := hT.left
            have hT2 : TR φ tm a y'.tmps := hT.right
            split at hv
            · rename_i r hin
              cases hv
              obtain ⟨Z, w', hrun, hR', hz⟩ := appendIn_sound (type := type) hat hat1 hu hu2 hs hb hin (opd_raw (tm := tm) (a := a) hG h1 hT1) (opd_rel (tm := tm) (a := a) hG h2 hT2) hR
              refine ⟨Z, w', φ, .inl ?_, Phi.le.refl _, hR', hz⟩
              have e1 : args = #[x, y] := by cases args; simp_all
              subst e1
              simp [execOp, resolve, invoke, builtin, hrun]
            · rename_i hin
              have hc0 : cBuiltin P .append ats args.toList = some (.append s bs x' y') := by
                rw [hargs]
                simp only [cBuiltin, hat, hu, hs, hb, hz, h1, h2, hat1, hu2]
              exact builtin_write (op := .append s bs x' y') hc0 rfl hv hG hT hR
          · cases hc
        · cases hc
      · cases hc
    · cases hc
  · cases hc

end AM
namespace AM
open Go Go.RowKit
set_option linter.unusedVariables false
set_option linter.unusedSimpArgs false
variable {P : Program} {φ : Phi} {tm : T V} {a : Act} {w : World} {w0 : Base} {σ σ' : St} {G B : Nat}

theorem cBuiltin_notX {b : Builtin} {ats : Array TypeId} {args : List Operand} {op : AOp} (hg : isX op = true) (h : cBuiltin P b ats args = some op) : False := by
  unfold cBuiltin at h
  repeat' (split at h)
  all_goals (first | (cases h; done) | (cases h; simp [isX] at hg))

theorem compOp0_notX {dst : Option Tmp} {type : TypeId} {pos : String} {after : Array Edge} {guard : Option (Nat × Bool)} {o : Op} {op : AOp} (hg : isX op = true)
    (h : compOp0 P ⟨dst, o, type, pos, after, guard⟩ = some op) : False := by
  cases o with
  | call c =>
    obtain ⟨callee, args, ats⟩ := c
    cases callee with
    | value f =>
      simp only [compOp0] at h
      split at h
      · split at h
        · cases h; simp [isX] at hg
        · split at h <;> cases h; simp [isX] at hg
      · cases h
    | invoke r m => simp [compOp0] at h
    | builtin b => simp only [compOp0] at h; exact cBuiltin_notX hg h
  | defer c =>
    obtain ⟨callee, args, ats⟩ := c
    cases callee with
    | value f =>
      simp only [compOp0] at h
      split at h
      · split at h
        · cases h; simp [isX] at hg
        · split at h <;> cases h; simp [isX] at hg
      · cases h
    | invoke r m => simp [compOp0] at h
    | builtin b => simp [compOp0] at h
  | load t x => simp only [compOp0, cLoad] at h; split at h <;> cases h; simp [isX] at hg
  | binOp op t x y yt =>
    simp only [compOp0, cBin] at h
    repeat' (split at h)
    all_goals (first | (cases h; done) | (cases h; simp [isX] at hg))
  | slice t x lo hi mx =>
    simp only [compOp0, cSlice] at h
    repeat' (split at h)
    all_goals (first | (cases h; done) | (cases h; simp [isX] at hg))
  | makeMap t r => cases r <;> simp only [compOp0] at h <;> cases h; simp [isX] at hg
  | makeFunc fn x c => cases fn <;> simp only [compOp0] at h <;> (try (cases h; done)); split at h <;> cases h; simp [isX] at hg
  | move x => simp only [compOp0] at h; split at h <;> cases h; simp [isX] at hg
  | assign x => simp only [compOp0] at h; split at h <;> cases h; simp [isX] at hg
  | alloc t | box t x | build t ps | buildSlice t l ps | store t x y | nilCheck x | unOp u t x | convert s d x | makeSlice t l c | fieldAddr s x i | field t x i | indexAddr t x i | index t x i | lookup t m k ok | mapUpdate t m k x | extract x i | pick c x y =>
    simp only [compOp0] at h
    repeat' (split at h)
    all_goals (first | (cases h; done) | (cases h; simp [isX] at hg))
  | _ => simp [compOp0] at h

def isL : AOp → Bool
  | .lenS _ | .iaddrS .. | .load .. | .store .. => true
  | _ => false
def FromL (P : Program) (o : Op) (op : AOp) : Prop :=
  (∃ ats t x e y, o = .call ⟨.builtin .len, #[x], ats⟩ ∧ ats[0]? = some t ∧ P.underlying t = some (.slice e) ∧ opd P x = some y ∧ op = .lenS y) ∨
  (∃ t x i e s y z, o = .indexAddr t x i ∧ P.underlying t = some (.slice e) ∧ szOf P e = some s ∧ opd P x = some y ∧ opd P i = some z ∧ op = .iaddrS s y z) ∨
  (∃ t x g n y, o = .load t x ∧ aggT P t = some g ∧ szOf P t = some n ∧ opd P x = some y ∧ op = .load g n y) ∨
  (∃ t x y n u v, o = .store t x y ∧ szOf P t = some n ∧ opd P x = some u ∧ opd P y = some v ∧ op = .store n u v)

theorem compOp0_fromL {dst : Option Tmp} {type : TypeId} {pos : String} {after : Array Edge} {guard : Option (Nat × Bool)} {o : Op} {op : AOp} (hg : isL op = true)
    (h : compOp0 P ⟨dst, o, type, pos, after, guard⟩ = some op) : FromL P o op := by
  cases o with
  | call c =>
    obtain ⟨callee, args, ats⟩ := c
    cases callee with
    | value f =>
      simp only [compOp0] at h
      split at h
      · split at h
        · cases h; simp [isL] at hg
        · split at h <;> cases h; simp [isL] at hg
      · cases h
    | invoke r m => simp [compOp0] at h
    | builtin b =>
      simp only [compOp0] at h
      obtain ⟨args⟩ := args
      simp only at h
      unfold cBuiltin at h
      split at h
      · rename_i t x hat
        split at h
        · cases h; simp [isL] at hg
        · rename_i e y hu hy
          cases h
          exact .inl ⟨ats, t, x, e, y, rfl, hat, hu, hy, rfl⟩
        · cases h; simp [isL] at hg
        · cases h
      all_goals repeat' (split at h)
      all_goals (first | (cases h; done) | (cases h; simp [isL] at hg))
  | defer c =>
    obtain ⟨callee, args, ats⟩ := c
    cases callee with
    | value f =>
      simp only [compOp0] at h
      split at h
      · split at h
        · cases h; simp [isL] at hg
        · split at h <;> cases h; simp [isL] at hg
      · cases h
    | invoke r m => simp [compOp0] at h
    | builtin b => simp [compOp0] at h
  | load t x =>
    simp only [compOp0, cLoad] at h
    split at h
    · rename_i g n y h1 h2 h3
      cases h
      exact .inr (.inr (.inl ⟨t, x, g, n, y, rfl, h1, h2, h3, rfl⟩))
    · cases h
  | binOp op t x y yt =>
    simp only [compOp0, cBin] at h
    repeat' (split at h)
    all_goals (first | (cases h; done) | (cases h; simp [isL] at hg))
  | slice t x lo hi mx =>
    simp only [compOp0, cSlice] at h
    repeat' (split at h)
    all_goals (first | (cases h; done) | (cases h; simp [isL] at hg))
  | makeMap t r => cases r <;> simp only [compOp0] at h <;> cases h; simp [isL] at hg
  | makeFunc fn x c => cases fn <;> simp only [compOp0] at h <;> (try (cases h; done)); split at h <;> cases h; simp [isL] at hg
  | move x => simp only [compOp0] at h; split at h <;> cases h; simp [isL] at hg
  | assign x => simp only [compOp0] at h; split at h <;> cases h; simp [isL] at hg
  | store t x y =>
    simp only [compOp0] at h
    split at h
    · rename_i n u v h1 h2 h3
      cases h
      exact .inr (.inr (.inr ⟨t, x, y, n, u, v, rfl, h1, h2, h3, rfl⟩))
    · cases h
  | indexAddr t x i =>
    simp only [compOp0] at h
    split at h
    · rename_i e x' i' hu h1 h2
      split at h
      · rename_i s hs
        cases h
        exact .inr (.inl ⟨t, x, i, e, s, x', i', rfl, hu, hs, h1, h2, rfl⟩)
      · cases h
    · split at h
      · cases h; simp [isL] at hg
      · cases h
    · cases h
  | alloc t | box t x | build t ps | buildSlice t l ps | nilCheck x | unOp u t x | convert s d x | makeSlice t l c | fieldAddr s x i | field t x i | index t x i | lookup t m k ok | mapUpdate t m k x | extract x i | pick c x y =>
    simp only [compOp0] at h
    repeat' (split at h)
    all_goals (first | (cases h; done) | (cases h; simp [isL] at hg))
  | _ => simp [compOp0] at h
theorem Rel.rowed (h : Rel G B w0 φ σ w) (dead : List Nat) (k : Nat) (t : T V) {b m s z : Nat} {w' : World} {C : Array Value} {E : TypeId}
    (hm : Enc m s z) (hBb : B ≤ b) (hbel : Below B w0.w w') (hsz : w.heap.size ≤ w'.heap.size) (hb : b < w'.heap.size)
    (hblk : w'.heap[b]? = some (.cells C E (0, 0))) (hC : C.size = z) (hk : s + k ≤ z)
    (hoth : ∀ j, j < w.heap.size → j ≠ b → w'.heap[j]? = w.heap[j]?)
    (hdead : ∀ a o n', σ.objs.get a = some o → φ a = some (b, n') → o.live = true → a ∈ dead)
    (hnew : ∀ i v, cellOf k [] t i = some v → ∃ x, C[s + i]? = some x ∧ VR φ v x) :
    Rel G B w0 (φ.upd σ.next (b, m)) { next := σ.next + 1, objs := T.set (killAll dead σ.objs) σ.next (.row k t), grps := σ.grps } w' ∧ φ.le (φ.upd σ.next (b, m)) := by
  have hn : φ σ.next = none := h.next_none
  have hle := φ.le_upd (a := σ.next) (b, m) hn
  have key : ∀ a o', (killAll dead σ.objs).get a = some o' → a < σ.next ∧ (o' = .dead ∨ (σ.objs.get a = some o' ∧ (o'.live = true → a ∉ dead))) := by
    intro a o' ho'
    obtain ⟨k1, k2⟩ := killAll_get dead σ.objs a
    have hlive : o'.live = true → a ∉ dead := by
      intro hl hmm
      rcases k2 hmm with q | q <;> rw [q] at ho' <;> simp at ho'
      subst ho'; simp [Obj.live] at hl
    rcases k1 with k1 | ⟨k1, k1'⟩
    · rw [k1] at ho'; exact ⟨h.lt ho', .inr ⟨ho', hlive⟩⟩
    · rw [k1] at ho'; simp at ho'
      obtain ⟨q, hq⟩ := Option.isSome_iff_exists.1 k1'
      exact ⟨h.lt hq, .inl ho'.symm⟩
  have notb : ∀ a o' n', (killAll dead σ.objs).get a = some o' → o'.live = true → φ a = some (b, n') → False := by
    intro a o' n' ho' hl hab
    rcases (key a o' ho').2 with q | ⟨q, q'⟩
    · subst q; simp [Obj.live] at hl
    · exact q' hl (hdead a o' n' q hab hl)
  refine ⟨⟨hbel, by have := h.B_le; omega, ?_, ?_, ?_, ?_, ?_, ?_, ?_, ?_⟩, hle⟩
  · intro a b1 n1 hab
    by_cases e1 : a = σ.next
    · subst e1; rw [Phi.upd_same] at hab; simp at hab; obtain ⟨rfl, rfl⟩ := hab
      exact ⟨by simp, hb⟩
    · rw [Phi.upd_ne φ _ e1] at hab; obtain ⟨r1, r2⟩ := h.dom a b1 n1 hab; exact ⟨by simp; omega, by omega⟩
  · intro g1 hg1
    obtain ⟨r1, n1, hn1⟩ := h.glob g1 hg1
    exact ⟨by simp; omega, n1, hle _ _ hn1⟩
  · intro a o' b1 n1 ho' hab
    simp only [T.get_set] at ho'
    by_cases e1 : a = σ.next
    · rw [if_pos e1] at ho'; simp at ho'; subst ho'
      subst e1; rw [Phi.upd_same] at hab; simp at hab; obtain ⟨rfl, rfl⟩ := hab
      exact ⟨hBb, C, E, s, z, hblk, hm, hC, hk, fun i v hi => let ⟨x, hx, hv⟩ := hnew i v hi; ⟨x, hx, VR.mono hle _ _ hv⟩⟩
    · rw [if_neg e1] at ho'
      rw [Phi.upd_ne φ _ e1] at hab
      refine ObjR.mono hle ?_
      cases hl : o'.live with
      | false => cases o' <;> simp_all [Obj.live, ObjR]
      | true =>
        have hbb : b1 ≠ b := by rintro rfl; exact notb a o' n1 ho' hl hab
        rcases (key a o' ho').2 with q | ⟨q, _⟩
        · subst q; trivial
        · exact (h.obj a o' b1 n1 q hab).of_block (hoth b1 (h.dom a b1 n1 hab).2 hbb)
  · intro a hna
    simp only at hna
    simp only [T.get_set]
    rw [if_neg (by omega)]
    cases hc : (killAll dead σ.objs).get a with
    | none => rfl
    | some o' => have := (key a o' hc).1; omega
  · intro a a' o1 o2 b1 n1 n2 hne k1 k2 hm1 hl ha1 ha2
    simp only [T.get_set] at k1 k2
    by_cases e1 : a = σ.next
    · rw [if_pos e1] at k1; simp at k1; subst k1
      subst e1; rw [Phi.upd_same] at ha1; simp at ha1; obtain ⟨rfl, rfl⟩ := ha1
      rw [if_neg (Ne.symm hne)] at k2
      rw [Phi.upd_ne φ _ (Ne.symm hne)] at ha2
      exact (notb a' o2 n2 k2 hl ha2).elim
    · rw [if_neg e1] at k1
      rw [Phi.upd_ne φ _ e1] at ha1
      by_cases e2 : a' = σ.next
      · subst e2; rw [Phi.upd_same] at ha2; simp at ha2; obtain ⟨rfl, rfl⟩ := ha2
        exact (notb a o1 n1 k1 (Obj.mut_live hm1) ha1).elim
      · rw [if_neg e2] at k2
        rw [Phi.upd_ne φ _ e2] at ha2
        rcases (key a o1 k1).2 with q | ⟨q1, _⟩
        · subst q; simp [Obj.mut] at hm1
        · rcases (key a' o2 k2).2 with q | ⟨q2, _⟩
          · subst q; simp [Obj.live] at hl
          · exact h.sep a a' o1 o2 b1 n1 n2 hne q1 q2 hm1 hl ha1 ha2
  · intro a o1 k1 hg1
    simp only [T.get_set] at k1 ⊢
    by_cases e1 : a = σ.next
    · rw [if_pos e1] at k1; simp at k1; subst k1; exact (hg1 rfl).elim
    · rw [if_neg e1] at k1
      rcases (key a o1 k1).2 with q | ⟨q, _⟩
      · subst q; exact (hg1 rfl).elim
      · obtain ⟨r1, r2⟩ := h.grp a o1 q hg1; exact ⟨by omega, r2⟩
  · intro x hx
    simp only at hx
    exact h.gfresh x (by omega)
  · intro a hX
    obtain ⟨p1, p2⟩ := h.pend a hX
    exact ⟨by rw [Phi.upd_ne φ _ (by omega)]; exact p1, by simp; omega⟩

theorem setRow_eq {b : Nat} {C C' : Array Value} {E : TypeId} (h : w.heap[b]? = some (.cells C E (0, 0))) :
    w.setRow b C' = { w with heap := w.heap.setIfInBounds b (.cells C' E (0, 0)) } := by
  have hlt : b < w.heap.size := (Array.getElem?_eq_some_iff.1 h).1
  have hv : w.heap[b] = .cells C E (0, 0) := (Array.getElem?_eq_some_iff.1 h).2
  unfold World.setRow
  congr 1
  apply Array.ext
  · simp
  · intro i h1 h2
    have h3 : i < w.heap.size := by simpa using h1
    rw [Array.getElem_modify, Array.getElem_setIfInBounds h3]
    by_cases e : b = i
    · subst e; simp [hv]
    · simp [e]
theorem Rel.rowStore (h : Rel G B w0 φ σ w) {id o b m k s z : Nat} {t : T V} {v : V} {x : Value} (ho : σ.objs.get id = some (.row k t)) (ha : φ id = some (b, m)) (he : Enc m s z) (hok : o < k) (hf : v.flat = true) (hv : VR φ v x) :
    ∃ w', (storeCells ⟨b, s + o, none⟩ [x]).run P w = .ok () w' ∧ Rel G B w0 φ { σ with objs := σ.objs.set id (.row k (t.set o v)) } w' := by
  obtain ⟨hB, C, E, s', z', h1, h2, h3, h4, h5⟩ := h.obj id _ b m ho ha
  obtain ⟨rfl, rfl⟩ := Enc.uniq he h2
  have hst := run_storeCells_at P b (s + o) E [x] 0 C w h1 (by simp; omega) (by intro y hy; simp at hy; subst hy; exact hv.oneCell hf)
  simp only [Nat.add_zero] at hst
  refine ⟨_, hst, ?_⟩
  generalize hC' : (C.toList.take (s + o) ++ [x] ++ C.toList.drop (s + o + [x].length)).toArray = C'
  have hget : ∀ i, C'[i]? = if i = s + o then some x else C[i]? := by
    intro i
    rw [← hC']
    simp only [List.getElem?_toArray]
    by_cases c1 : i < s + o
    · rw [if_neg (by omega), List.append_assoc, List.getElem?_append_left (by simp; omega), List.getElem?_take]; simp [c1]
    · by_cases c2 : i = s + o
      · rw [if_pos c2, List.append_assoc, List.getElem?_append_right (by simp; omega), List.getElem?_append_left (by simp; omega)]
        simp only [List.length_take, Array.length_toList]
        rw [show i - min (s + o) C.size = 0 by omega]; rfl
      · rw [if_neg c2, List.getElem?_append_right (by simp; omega)]
        simp only [List.length_append, List.length_take, Array.length_toList, List.getElem?_drop, Array.getElem?_toList, List.length_cons, List.length_nil]
        congr 1; omega
  rw [setRow_eq h1]
  refine h.setObj ho rfl rfl ha hB rfl fun hblk => ?_
  refine ⟨hB, C', E, s, z, hblk, he, by rw [← hC']; simp; omega, h4, ?_⟩
  intro i u hi
  unfold cellOf at hi
  split at hi
  · rename_i hik
    rw [T.get_set] at hi
    rw [hget]
    by_cases e : i = o
    · rw [if_pos e] at hi; simp at hi; subst hi
      rw [if_pos (by omega)]; exact ⟨x, rfl, hv⟩
    · rw [if_neg e] at hi
      rw [if_neg (by omega)]
      exact h5 i u (by unfold cellOf; rw [if_pos hik]; exact hi)
  · cases hi
theorem compC_slice {dst : Option Tmp} {type : TypeId} {pos : String} {after : Array Edge} {guard : Option (Nat × Bool)} {o : Op} {s : Nat} {y : Opd} {lo' hi' : Option Opd}
    (h : compC P ⟨dst, o, type, pos, after, guard⟩ = some (.sliceOfC s y lo' hi')) :
    ∃ t x lo hi e, o = .slice t x lo hi none ∧ P.underlying t = some (.slice e) ∧ szOf P e = some s ∧ opd P x = some y ∧ oopd P lo = some lo' ∧ oopd P hi = some hi' := by
  unfold compC at h
  split at h
  · rename_i t x lo hi heq
    simp only at heq
    split at h
    · rename_i e x' lo1 hi1 hu h1 h2 h3
      split at h
      · rename_i s1 hs
        cases h
        exact ⟨t, x, lo, hi, e, heq, hu, hs, h1, h2, h3⟩
      · cases h
    · cases h
  · repeat' (split at h)
    all_goals cases h
  · cases h

theorem compC_append {dst : Option Tmp} {type : TypeId} {pos : String} {after : Array Edge} {guard : Option (Nat × Bool)} {o : Op} {s bs : Nat} {x' y' : Opd}
    (h : compC P ⟨dst, o, type, pos, after, guard⟩ = some (.appendC s bs x' y')) :
    ∃ ats t u e e2 z x y, o = .call ⟨.builtin .append, #[x, y], ats⟩ ∧ ats[0]? = some t ∧ ats[1]? = some u ∧ P.underlying t = some (.slice e) ∧ P.underlying u = some (.slice e2) ∧
      szOf P e = some s ∧ bytesOf P e = some bs ∧ zeroC P e = some z ∧ opd P x = some x' ∧ opd P y = some y' := by
  unfold compC at h
  split at h
  · repeat' (split at h)
    all_goals cases h
  · rename_i c heq
    simp only at heq
    obtain ⟨callee, args, ats⟩ := c
    split at h
    · rename_i hcal
      simp only at hcal
      subst hcal
      simp only at h
      split at h
      · rename_i t u x y hat hat1 hargs
        split at h
        · rename_i e e2 hu hu2
          split at h
          · rename_i s1 b1 z x1 y1 hs hb hz h1 h2
            cases h
            have e1 : args = #[x, y] := by cases args; simp_all
            subst e1
            exact ⟨ats, t, u, e, e2, z, x, y, heq, hat, hat1, hu, hu2, hs, hb, hz, h1, h2⟩
          · cases h
        · cases h
      · cases h
    · cases h
  · cases h
theorem compD_spec {o : Oper} {op : AOp} (h : compD P o = some op) :
    (∃ e x lo hi, compC P o = some (.sliceOfC e x lo hi) ∧ op = .sliceOfX e x lo hi) ∨ (∃ e b x y, compC P o = some (.appendC e b x y) ∧ op = .appendX e b x y) ∨
    (∃ x, compOp0 P o = some (.lenS x) ∧ op = .lenX x) ∨ (∃ e x i, compOp0 P o = some (.iaddrS e x i) ∧ op = .iaddrX e x i) ∨
    (∃ g n x, compOp0 P o = some (.load g n x) ∧ op = .loadX g n x) ∨ (∃ n x y, compOp0 P o = some (.store n x y) ∧ op = .storeX n x y) := by
  unfold compD at h
  split at h
  · rename_i e x lo hi hc; cases h; exact .inl ⟨_, _, _, _, hc, rfl⟩
  · rename_i e b x y hc; cases h; exact .inr (.inl ⟨_, _, _, _, hc, rfl⟩)
  · cases h
  · split at h
    · rename_i x hc; cases h; exact .inr (.inr (.inl ⟨_, hc, rfl⟩))
    · rename_i e x i hc; cases h; exact .inr (.inr (.inr (.inl ⟨_, _, _, hc, rfl⟩)))
    · rename_i g n x hc; cases h; exact .inr (.inr (.inr (.inr (.inl ⟨_, _, _, hc, rfl⟩))))
    · rename_i n x y hc; cases h; exact .inr (.inr (.inr (.inr (.inr ⟨_, _, _, hc, rfl⟩))))
    · cases h

theorem pureD {o : Oper} {op : AOp} {v : V} (hc : compD P o = some op) (hp : isPure op = true) (hv : pureOp op tm = some v) (hG : GR P φ) (hT : TR φ tm a op.tmps) : Tells P a o φ v w := by
  replace hc := compD_spec hc
  rcases hc with ⟨e0, x', lo', hi', hc, rfl⟩ | ⟨_, _, _, _, hc, rfl⟩ | ⟨x', hc, rfl⟩ | ⟨s, x', i', hc, rfl⟩ | ⟨_, _, _, hc, rfl⟩ | ⟨_, _, _, hc, rfl⟩
  · simp only [pureOp] at hv
    split at hv
    · rename_i id off len e1 hx0
      obtain ⟨dst, o, type, pos, after, guard⟩ := o
      obtain ⟨t, x, lo, hi, e, rfl, hu, hs, h1, h2, h3⟩ := compC_slice hc
      have r := opd_raw (tm := tm) (a := a) hG h1 hT.left.left
      have o2 : OR φ (lo'.map (·.eval tm)) (lo.map a.eval) := by
        rcases oopd_rel (tm := tm) (a := a) hG h2 hT.left.right with ⟨rfl, rfl⟩ | ⟨u, v, rfl, rfl, hr⟩
        · exact .inl ⟨rfl, rfl⟩
        · exact .inr ⟨_, _, rfl, rfl, hr⟩
      have o3 : OR φ (hi'.map (·.eval tm)) (hi.map a.eval) := by
        rcases oopd_rel (tm := tm) (a := a) hG h3 hT.right with ⟨rfl, rfl⟩ | ⟨u, v, rfl, rfl, hr⟩
        · exact .inl ⟨rfl, rfl⟩
        · exact .inr ⟨_, _, rfl, rfl, hr⟩
      rw [hx0] at r
      obtain ⟨b, m, sh, z, o', cap, hb, he, hx, hlc, hfit, ho⟩ := r
      split at hv
      · rename_i l h hsb
        split at hv
        · rename_i hee
          subst hee
          cases hv
          obtain ⟨hrun, hlh, hh⟩ := sliceB_rel (P := P) (w := w) hlc hsb o2 o3 true
          have hhl : h ≤ len := by omega
          by_cases hcl : cap = l
          · subst hcl
            refine ⟨.slice (some ⟨b, o', none⟩) (h - cap) (cap - cap), ?_, b, m, sh, z, o', cap - cap, hb, he, rfl, by omega, ?_, ?_⟩
            · simp [execOp, Instr.sliceAt, Instr.slice, run_underlying' hu, hx, hrun, run_sizeOf' hs]
            · have : cap - cap = 0 := by omega
              rw [this]; omega
            · right; omega
          · refine ⟨.slice (some ⟨b, o' + l * e1, none⟩) (h - l) (cap - l), ?_, b, m, sh, z, o' + l * e1, cap - l, hb, he, rfl, by omega, ?_, ?_⟩
            · simp [execOp, Instr.sliceAt, Instr.slice, run_underlying' hu, hx, hrun, run_sizeOf' hs, hcl, addr_add]
            · have : l * e1 + (cap - l) * e1 = cap * e1 := by rw [← Nat.add_mul]; congr 1; omega
              omega
            · left
              rcases ho with rfl | ⟨rfl, rfl⟩
              · omega
              · omega
        · cases hv
      · cases hv
    · exact pureC hc rfl hv hG hT
  · simp [isPure] at hp
  · simp only [pureOp] at hv
    split at hv
    · rename_i id off n e1 hx0
      cases hv
      obtain ⟨dst, o, type, pos, after, guard⟩ := o
      rcases compOp0_fromL rfl hc with ⟨ats, t, x, e, y, rfl, hat, hu, hy, hop⟩ | ⟨_, _, _, _, _, _, _, _, _, _, _, _, hop⟩ | ⟨_, _, _, _, _, _, _, _, _, hop⟩ | ⟨_, _, _, _, _, _, _, _, _, _, hop⟩
      · cases hop
        have r := opd_raw (tm := tm) (a := a) hG hy hT
        rw [hx0] at r
        obtain ⟨b, m, sh, z, o', cap, hb, he, hx, _⟩ := r
        exact ⟨.int .i64 n, by simp [execOp, resolve, invoke, builtin, Builtin.len_, hat, run_underlying' hu, goInt, hx], rfl⟩
      all_goals cases hop
    · exact pure_sound0 hc rfl hv hG hT
  · simp only [pureOp] at hv
    split at hv
    · rename_i id off len e1 hx0
      split at hv
      · rename_i k j hi0
        split at hv
        · rename_i hcond
          obtain ⟨rfl, h0, hlt⟩ := hcond
          cases hv
          obtain ⟨dst, o, type, pos, after, guard⟩ := o
          rcases compOp0_fromL rfl hc with ⟨_, _, _, _, _, _, _, _, _, hop⟩ | ⟨t, x, i, e, s', y, z', rfl, hu, hs, h1, h2, hop⟩ | ⟨_, _, _, _, _, _, _, _, _, hop⟩ | ⟨_, _, _, _, _, _, _, _, _, _, hop⟩
          · cases hop
          · cases hop
            have r1 := opd_raw (tm := tm) (a := a) hG h1 hT.left
            have r2 := opd_rel (tm := tm) (a := a) hG h2 hT.right
            rw [hx0] at r1; rw [hi0] at r2
            obtain ⟨b, m, sh, z, o', cap, hb, he, hx, hlc, hfit, ho⟩ := r1
            have r2 : a.eval i = .int k j := r2
            have ho' : o' = sh + off := by rcases ho with h | h; exact h; omega
            subst ho'
            refine ⟨.pointer (some ⟨b, sh + off + j.toNat * e1, none⟩), ?_, b, m, sh, z, hb, he, by rw [Nat.add_assoc]⟩
            simp [execOp, Instr.indexAt, asIntOf, run_underlying' hu, hx, r2, h0, hlt, run_sizeOf' hs, addr_add]
          all_goals cases hop
        · cases hv
      · cases hv
    · exact pure_sound0 hc rfl hv hG hT
  · simp [isPure] at hp
  · simp [isPure] at hp

theorem readD {o : Oper} {op : AOp} {v : V} (hc : compD P o = some op) (hp : isRead op = true) (hv : readOp op tm σ = some v) (hG : GR P φ) (hT : TR φ tm a op.tmps) (hR : Rel G B w0 φ σ w) : Tells P a o φ v w := by
  replace hc := compD_spec hc
  rcases hc with ⟨e0, x', lo', hi', hc, rfl⟩ | ⟨_, _, _, _, hc, rfl⟩ | ⟨x', hc, rfl⟩ | ⟨s, x', i', hc, rfl⟩ | ⟨g, n, x', hc, rfl⟩ | ⟨_, _, _, hc, rfl⟩
  · simp [isRead] at hp
  · simp [isRead] at hp
  · simp [isRead] at hp
  · simp [isRead] at hp
  · simp only [readOp] at hv
    split at hv
    · rename_i id off hx0
      split at hv
      · cases hv
      · rename_i hg
        have hg : g = false := by simpa using hg
        subst hg
        split at hv
        · rename_i k t ho
          obtain ⟨dst, o, type, pos, after, guard⟩ := o
          rcases compOp0_fromL rfl hc with ⟨_, _, _, _, _, _, _, _, _, hop⟩ | ⟨_, _, _, _, _, _, _, _, _, _, _, _, hop⟩ | ⟨ty, x, g, n', y, rfl, hg, hn, hy, hop⟩ | ⟨_, _, _, _, _, _, _, _, _, _, hop⟩
          · cases hop
          · cases hop
          · cases hop
            have r := opd_raw (tm := tm) (a := a) hG hy hT
            rw [hx0] at r
            obtain ⟨b, m, sh, z, hb, he, hx⟩ := r
            obtain ⟨hB, C, E, s', z', h1, h2, h3, h4, h5⟩ := hR.obj id _ b m ho hb
            obtain ⟨rfl, rfl⟩ := Enc.uniq he h2
            obtain ⟨X, hX, hvX⟩ := h5 off v hv
            have hcell : w.cell? ⟨b, sh + off, none⟩ = some X := by simp [World.cell?, h1, hX]
            exact ⟨X, by simp [execOp, Instr.loadAt, Instr.sureAddr, hx, loadVar, run_isAgg' hg, hcell], hvX⟩
          · cases hop
        · cases hv
    · exact read_sound0 hc rfl hv hG hT hR
  · simp [isRead] at hp

theorem appX_core {esz k l cap b o' : Nat} {dead : List Nat} {old vs : List V} {olds xs : List Value} {C : Array Value} {E0 : TypeId} {R : Result Value}
    (h : Rel G B w0 φ σ w) (hor : LR φ old olds) (hol : olds.length = l * esz) (hocell : ∀ j v, olds[j]? = some v → w.cell? ((⟨b, o', none⟩ : Addr).add j) = some v)
    (hblk : w.heap[b]? = some (.cells C E0 (0, 0))) (hBb : B ≤ b) (hfit : o' + cap * esz ≤ C.size)
    (hdead : ∀ a o n', σ.objs.get a = some o → φ a = some (b, n') → o.live = true → a ∈ dead)
    (hr : LR φ vs xs) (hlen : xs.length = k * esz) (hk : 0 < k) (hesz : 0 < esz) (hflat : vs.all V.flat = true)
    (hrun : ∃ cap' rest E, l + k ≤ cap' ∧ Array.size rest = (cap' - (l + k)) * esz ∧ R =
      if l + k ≤ cap then
        ((storeCells ((⟨b, o', none⟩ : Addr).add (l * esz)) xs : Sem Unit).run P w).andThen fun _ w' => .ok (.slice (some ⟨b, o', none⟩) (l + k) cap) w'
      else
        ((Builtin.firstCells esz l (.slice (some ⟨b, o', none⟩) l cap)).run P w.drew).andThen fun old w' =>
          .ok (.slice (some ⟨w'.heap.size, 0, none⟩) (l + k) cap') (w'.alloc (.cells (old ++ xs.toArray ++ rest) E))) :
    ∃ X w' φ', R = .ok X w' ∧ φ.le φ' ∧ Rel G B w0 φ' { next := σ.next + 1, objs := T.set (killAll dead σ.objs) σ.next (.row (old ++ vs).length (ofList (old ++ vs))), grps := σ.grps } w' ∧ VR φ' (.sliceX σ.next 0 (l + k) esz) X := by
  obtain ⟨cap', rest, E, hc1, hc2, hR⟩ := hrun
  have hone : ∀ x ∈ xs, x.oneCell' = true := by
    intro x hx
    obtain ⟨i, hi, rfl⟩ := List.getElem_of_mem hx
    have hil : i < vs.length := by have := hr.length; omega
    obtain ⟨y, hy, hv⟩ := hr.get i vs[i] (by simp [hil])
    simp [hi] at hy; subst hy
    exact hv.oneCell (by simpa using List.all_eq_true.1 hflat vs[i] (by simp))
  have hall := LR.append hor hr
  have hallen := hall.length
  have holdlen := hor.length
  have hvlen := hr.length
  by_cases hroom : l + k ≤ cap
  · rw [if_pos hroom] at hR
    have hkm : (l + k) * esz ≤ cap * esz := Nat.mul_le_mul_right _ hroom
    rw [Nat.add_mul] at hkm
    have hst := run_storeCells_at P b (o' + l * esz) E0 xs 0 C w hblk (by omega) hone
    simp only [Nat.add_zero] at hst
    rw [add_none, hst] at hR
    simp only [Result.andThen_ok] at hR
    generalize hC' : (C.toList.take (o' + l * esz) ++ xs ++ C.toList.drop (o' + l * esz + xs.length)).toArray = C' at hR
    have hCsz : C'.size = C.size := by rw [← hC']; simp; omega
    have hget : ∀ i, C'[i]? = if o' + l * esz ≤ i ∧ i < o' + l * esz + xs.length then xs[i - (o' + l * esz)]? else C[i]? := by
      intro i
      rw [← hC']
      simp only [List.getElem?_toArray]
      by_cases c1 : i < o' + l * esz
      · rw [if_neg (by omega), List.append_assoc, List.getElem?_append_left (by simp; omega), List.getElem?_take]; simp [c1]
      · by_cases c2 : i < o' + l * esz + xs.length
        · rw [if_pos (by omega), List.append_assoc, List.getElem?_append_right (by simp; omega), List.getElem?_append_left (by simp; omega)]
          simp only [List.length_take, Array.length_toList]
          rw [show min (o' + l * esz) C.size = o' + l * esz by omega]
        · rw [if_neg (by omega), List.getElem?_append_right (by simp; omega)]
          simp only [List.length_append, List.length_take, Array.length_toList, List.getElem?_drop, Array.getElem?_toList]
          congr 1; omega
    have hrow := h.rowed (w' := w.setRow b C') dead (old ++ vs).length (ofList (old ++ vs)) (m := 2 ^ o' * (2 * C.size + 1)) (s := o') (z := C.size) (C := C') (E := E0) rfl hBb (below_setRow h.below hBb C') (by simp)
      (by have := (Array.getElem?_eq_some_iff.1 hblk).1; simpa using this) (setRow_heap w b C C' E0 _ hblk) hCsz (by simp; omega) (fun j _ hj => setRow_other w b j C' hj) hdead
      (fun i v hi => by
        rw [cellOf_ofList] at hi
        obtain ⟨x, hx, hv⟩ := hall.get i v hi
        refine ⟨x, ?_, hv⟩
        rw [hget]
        by_cases c : i < olds.length
        · rw [List.getElem?_append_left c] at hx
          rw [if_neg (by omega)]
          have := hocell i x hx
          rw [add_none] at this
          simpa [World.cell?, hblk] using this
        · rw [List.getElem?_append_right (by omega)] at hx
          have : i - olds.length < xs.length := by
            rcases Nat.lt_or_ge (i - olds.length) xs.length with q | q
            · exact q
            · rw [List.getElem?_eq_none q] at hx; cases hx
          rw [if_pos (by omega), show o' + i - (o' + l * esz) = i - olds.length by omega]; exact hx)
    refine ⟨_, _, _, hR, hrow.2, hrow.1, ?_⟩
    exact ⟨b, _, o', C.size, o', cap, Phi.upd_same _ _ _, rfl, rfl, hroom, hfit, .inl rfl⟩
  · rw [if_neg hroom] at hR
    have hfirst : (Builtin.firstCells esz l (.slice (some ⟨b, o', none⟩) l cap)).run P w.drew = .ok olds.toArray w.drew :=
      run_firstCells_some (P := P) w.drew esz l ⟨b, o', none⟩ l cap olds hol hocell
    rw [hfirst] at hR
    simp only [Result.andThen_ok] at hR
    generalize hCC : olds.toArray ++ xs.toArray ++ rest = CC at hR
    have hCsz : CC.size = olds.length + xs.length + rest.size := by rw [← hCC]; simp
    have hrow := h.drew.rowed (w' := w.drew.alloc (.cells CC E)) dead (old ++ vs).length (ofList (old ++ vs)) (m := 2 ^ 0 * (2 * CC.size + 1)) (s := 0) (z := CC.size) (b := w.heap.size) (C := CC) (E := E) rfl h.B_le (h.drew.below.alloc h.drew.B_le _) (by simp)
      (by simp) (heap_alloc_new w.drew _) rfl (by simp; omega) (fun j hj _ => heap_alloc_old w.drew _ hj)
      (fun a o n' ha hab hl => by have := (h.dom a _ n' hab).2; omega)
      (fun i v hi => by
        rw [cellOf_ofList] at hi
        obtain ⟨x, hx, hv⟩ := hall.get i v hi
        refine ⟨x, ?_, hv⟩
        have hlt : i < (olds ++ xs).length := by
          rcases Nat.lt_or_ge i (olds ++ xs).length with q | q
          · exact q
          · rw [List.getElem?_eq_none q] at hx; cases hx
        have e : CC = ((olds ++ xs) ++ rest.toList).toArray := by rw [← hCC]; apply Array.ext'; simp
        rw [Nat.zero_add, e, List.getElem?_toArray, List.getElem?_append_left hlt]; exact hx)
    refine ⟨_, _, _, hR, hrow.2, hrow.1, ?_⟩
    refine ⟨w.heap.size, _, 0, CC.size, 0, cap', Phi.upd_same _ _ _, rfl, rfl, hc1, ?_, .inl rfl⟩
    rw [hCsz, hol, hlen, hc2, ← Nat.add_mul, ← Nat.add_mul]
    simp only [Nat.zero_add]
    exact Nat.mul_le_mul_right _ (by omega)

theorem appX_sound {ats : Array TypeId} {t u e e2 type : TypeId} {s bs : Nat} {z : List V} {X Y : Value} {x y v : V} (hat : ats[0]? = some t) (hat1 : ats[1]? = some u) (hu : P.underlying t = some (.slice e)) (hu2 : P.underlying u = some (.slice e2)) (hs : szOf P e = some s) (hb : bytesOf P e = some bs) (hz : zeroC P e = some z)
    (hv : appX σ s bs x y = some (v, σ')) (r1 : VR φ x X) (r2 : VR φ y Y) (hR : Rel G B w0 φ σ w) :
    ∃ Z w' φ', (Builtin.append_ ats type #[X, Y]).run P w = .ok Z w' ∧ φ.le φ' ∧ Rel G B w0 φ' σ' w' ∧ VR φ' v Z := by
  unfold appX at hv
  split at hv
  · rename_i jd joff k ye
    split at hv
    · rename_i hcond
      obtain ⟨hesz, hk⟩ := hcond
      split at hv
      · rename_i l old dead hm
        split at hv
        · rename_i vs hvs
          split at hv
          · rename_i hcond2
            obtain ⟨hb1, hb2, hflat⟩ := hcond2
            cases hv
            simp only [maxLenBytes] at hb1 hb2
            obtain ⟨b0, n0, o0, c0, hb0, rfl, hlc0, hfit0, ho0⟩ := r2
            have ho0 : o0 = joff := by rcases ho0 with h | ⟨h, _⟩; exact h; omega
            subst ho0
            obtain ⟨xs, hr, hlen, hcell⟩ := hR.load hvs hb0
            obtain ⟨ZX, hX, hrz, hs', hXs⟩ := zeroC_spec hz
            have hzs : ZX.cells.size = s := by rw [hs] at hs'; cases hs'; exact hXs
            have hx : ∃ b o' cap C E0 olds, X = .slice (some ⟨b, o', none⟩) l cap ∧ LR φ old olds ∧ olds.length = l * s ∧ (∀ j v, olds[j]? = some v → w.cell? ((⟨b, o', none⟩ : Addr).add j) = some v) ∧
                w.heap[b]? = some (.cells C E0 (0, 0)) ∧ B ≤ b ∧ o' + cap * s ≤ C.size ∧ (∀ a o n', σ.objs.get a = some o → φ a = some (b, n') → o.live = true → a ∈ dead) := by
              split at hm
              · rename_i id off l1 e1
                split at hm
                · cases hm
                · rename_i hoff
                  have he1 : e1 = s := by rcases Nat.decEq e1 s with q | q; exact (hoff (.inr q)).elim; exact q
                  subst he1
                  split at hm
                  · rename_i g n z1 t1 ho
                    split at hm
                    · rename_i old1 hold
                      cases hm
                      obtain ⟨b, m, o', cap, hbx, rfl, hlc, hfit, ho'⟩ := r1
                      obtain ⟨C, E0, fz, d1, d2, d3, d4, d5⟩ := hR.obj id _ b m ho hbx
                      obtain ⟨rfl, hBb⟩ := d3 rfl
                      have hload : σ.load id off (l * e1) = some old := by unfold St.load; rw [ho]; exact hold
                      obtain ⟨olds, hor, hol, hocell⟩ := hR.load hload hbx
                      refine ⟨b, o', cap, C, E0, olds, rfl, hor, hol, ?_, d1, hBb, by omega, ?_⟩
                      · rcases ho' with rfl | ⟨rfl, _⟩
                        · exact hocell
                        · have : olds = [] := List.eq_nil_of_length_eq_zero (by omega)
                          subst this; simp
                      · intro a o n' ha hab hl
                        by_cases e : a = id
                        · simp [e]
                        · obtain ⟨s1, s2⟩ := hR.sep id a _ o b m n' (Ne.symm e) ho ha rfl hl hbx hab
                          simp only [grp_cells] at s1 s2
                          have := (hR.grp a o ha (by rw [← s2]; exact s1)).2
                          rw [← s2] at this
                          simp [s1, this]
                    · cases hm
                  · cases hm
              · rename_i id o l1 e1
                split at hm
                · cases hm
                · rename_i he1
                  have he1 : e1 = s := by rcases Nat.decEq e1 s with q | q; exact (he1 q).elim; exact q
                  subst he1
                  split at hm
                  · rename_i n t1 ho
                    split at hm
                    · rename_i old1 hold
                      cases hm
                      obtain ⟨b, m, sh, z1, o', cap, hbx, he, rfl, hlc, hfit, ho'⟩ := r1
                      obtain ⟨hBb, C, E0, sh2, z2, d1, d2, d3, d4, d5⟩ := hR.obj id _ b m ho hbx
                      obtain ⟨rfl, rfl⟩ := Enc.uniq he d2
                      obtain ⟨hl1, hl2⟩ := loadN_get hold
                      have hget : ∀ i, i < old.length → ∃ x, w.cell? ⟨b, sh + (o + i), none⟩ = some x ∧ ∀ v, old[i]? = some v → VR φ v x := by
                        intro i hi
                        obtain ⟨x, hx, hvx⟩ := d5 (o + i) old[i] (hl2 i old[i] (by simp [hi]))
                        exact ⟨x, by simp [World.cell?, d1, hx], fun v hv' => by simp [hi] at hv'; subst hv'; exact hvx⟩
                      refine ⟨b, o', cap, C, E0, (List.range (l * e1)).map fun i => (w.cell? ⟨b, sh + (o + i), none⟩).getD Go.undef, rfl, ?_, by simp, ?_, d1, hBb, by omega, ?_⟩
                      · refine LR.of_get (by simp [hl1]) fun i v hi => ?_
                        have hil : i < old.length := by
                          rcases Nat.lt_or_ge i old.length with q | q
                          · exact q
                          · rw [List.getElem?_eq_none q] at hi; cases hi
                        obtain ⟨x, hx, hvx⟩ := hget i hil
                        refine ⟨x, ?_, hvx v hi⟩
                        have : i < l * e1 := by omega
                        simp [this, hx]
                      · intro j v hj
                        have hjk : j < l * e1 := by
                          rcases Nat.lt_or_ge j (l * e1) with q | q
                          · exact q
                          · rw [List.getElem?_eq_none (by simpa using q)] at hj; cases hj
                        obtain ⟨x, hx, _⟩ := hget j (by omega)
                        simp [hjk, hx] at hj
                        subst hj
                        have : o' = sh + o := by
                          rcases ho' with q | ⟨q, _⟩
                          · exact q
                          · subst q; simp at hjk
                        subst this
                        rw [add_none, Nat.add_assoc]; exact hx
                      · intro a ob n' ha hab hl
                        by_cases e : a = id
                        · simp [e]
                        · exact ((hR.sep id a _ ob b m n' (Ne.symm e) ho ha rfl hl hbx hab).1 rfl).elim
                    · cases hm
                  · cases hm
              · cases hm
            obtain ⟨b, o', cap, C, E0, olds, rfl, hor, hol, hocell, hblk, hBb, hfit, hdead⟩ := hx
            refine appX_core (P := P) hR hor hol hocell hblk hBb hfit hdead hr hlen hk hesz hflat ?_
            refine ⟨grownCap w (l + k) cap e, Builtin.zeroCells ZX.cells (grownCap w (l + k) cap e - (l + k)), e, grownCap_ge _ _ _ _, by rw [size_zeroCells, hzs], ?_⟩
            rw [app_slice (w := w) (c := c0) (base := some ⟨b, o', none⟩) (sLen := l) (sCap := cap) (ty := type) hat1 hu2 hs hb hlen hcell (by omega) (by omega) hat hu]
            split
            · rfl
            · cases hfc : (Builtin.firstCells s l (.slice (some ⟨b, o', none⟩) l cap)).run P w.drew with
              | halt hh w' => rfl
              | ok old w' =>
                have := firstCells_world hfc
                subst this
                have hf := run_firstCells_some (P := P) w.drew s k ⟨b0, o0, none⟩ k c0 xs hlen (by simpa using hcell)
                simp only [Result.andThen_ok, hf, hX]
          · cases hv
        · cases hv
      · cases hv
    · cases hv
  · cases hv

theorem writeD {o : Oper} {op : AOp} {v : V} (hc : compD P o = some op) (hw : isWrite op = true) (hv : writeOp op tm σ = some (v, σ')) (hG : GR P φ) (hT : TR φ tm a op.tmps) (hR : Rel G B w0 φ σ w) : Does P a o G B w0 φ σ' v w := by
  replace hc := compD_spec hc
  rcases hc with ⟨e0, x', lo', hi', hc, rfl⟩ | ⟨s, bs, x', y', hc, rfl⟩ | ⟨x', hc, rfl⟩ | ⟨s, x', i', hc, rfl⟩ | ⟨_, _, _, hc, rfl⟩ | ⟨n, x', y', hc, rfl⟩
  · simp [isWrite] at hw
  · simp only [writeOp] at hv
    split at hv
    · rename_i r hap
      cases hv
      obtain ⟨dst, o, type, pos, after, guard⟩ := o
      obtain ⟨ats, t, u, e, e2, z, x, y, rfl, hat, hat1, hu, hu2, hs, hb, hz, h1, h2⟩ := compC_append hc
      have hT1 : TR φ tm a x'.tmps := hT.left
      have hT2 : TR φ tm a y'.tmps := hT.right
      exact does_of (R := (Builtin.append_ ats type #[a.eval x, a.eval y]).run P w) (by simp [execOp, resolve, invoke, builtin])
        (appX_sound hat hat1 hu hu2 hs hb hz hap (opd_raw (tm := tm) (a := a) hG h1 hT1) (opd_rel (tm := tm) (a := a) hG h2 hT2) hR)
    · exact writeC hc rfl hv hG hT hR
  · simp [isWrite] at hw
  · simp [isWrite] at hw
  · simp [isWrite] at hw
  · simp only [writeOp] at hv
    split at hv
    · rename_i id off hx0
      split at hv
      · rename_i k t u ho hcs
        split at hv
        · rename_i hcond
          obtain ⟨hok, rfl, hflat⟩ := hcond
          cases hv
          obtain ⟨dst, o, type, pos, after, guard⟩ := o
          rcases compOp0_fromL rfl hc with ⟨_, _, _, _, _, _, _, _, _, hop⟩ | ⟨_, _, _, _, _, _, _, _, _, _, _, _, hop⟩ | ⟨_, _, _, _, _, _, _, _, _, hop⟩ | ⟨ty, x, y, n', u1, v1, rfl, hn, h1, h2, hop⟩
          · cases hop
          · cases hop
          · cases hop
          · cases hop
            have r1 := opd_raw (tm := tm) (a := a) hG h1 hT.left
            have r2 := (opd_rel (tm := tm) (a := a) hG h2 hT.right).cells
            rw [hx0] at r1
            rw [hcs] at r2
            obtain ⟨b, m, sh, z, hb, he, hx⟩ := r1
            obtain ⟨X1, S, hXS, hv1, hnil⟩ := r2
            cases hnil
            obtain ⟨w', hrun, hR'⟩ := hR.rowStore (P := P) ho hb he hok hflat hv1
            refine ⟨Go.undef, w', φ, .inr ⟨?_, rfl⟩, Phi.le.refl _, hR', VR.undef⟩
            have hsz : (a.eval y).cells.size = 1 := by have : (a.eval y).cells.toList.length = 1 := by rw [hXS]; rfl
                                                       simpa using this
            simp [execOp, Instr.storeAt, hx, Instr.sureAddr, storeVar, run_sizeOf' hn, hsz, hXS, hrun]
        · cases hv
      · cases hv
    · exact write_sound0 hc rfl hv hG hT hR

theorem compM_notD {ops : Array Oper} {o : Oper} {op : AOp} (h : compM P ops o = some op) : isX op = true := compM_isX h
def isD : AOp → Bool
  | .lenX _ | .iaddrX .. | .sliceOfX .. | .loadX .. | .storeX .. | .appendX .. => true
  | _ => false
theorem pureOp_old {op : AOp} (h : isD op = false) : pureOp op tm = pureOp0 op tm := by cases op <;> first | rfl | (simp [isD] at h)
theorem readOp_old {op : AOp} (h : isD op = false) : readOp op tm σ = readOp0 op tm σ := by cases op <;> first | rfl | (simp [isD] at h)
theorem writeOp_old {op : AOp} (h : isD op = false) : writeOp op tm σ = writeOp0 op tm σ := by cases op <;> first | rfl | (simp [isD] at h)
theorem isD_isX {op : AOp} (h : isD op = true) : isX op = true := by cases op <;> first | rfl | (simp [isD] at h)
theorem compM_old {ops : Array Oper} {o : Oper} {op : AOp} (h : compM P ops o = some op) : isD op = false := by
  unfold compM at h
  repeat' (split at h)
  all_goals (first | (cases h; done) | (cases h; rfl))
theorem compC_old {o : Oper} {op : AOp} (h : compC P o = some op) : isD op = false := by
  unfold compC at h
  repeat' (split at h)
  all_goals (first | (cases h; done) | (cases h; rfl))
theorem compX_old {o : Oper} {op : AOp} (h : compX P o = some op) : isD op = false := by
  unfold compX at h
  repeat' (split at h)
  all_goals (first | (cases h; done) | (cases h; rfl))
theorem compOp0_old {o : Oper} {op : AOp} (h : compOp0 P o = some op) : isD op = false := by
  cases hd : isD op with
  | false => rfl
  | true => exact (compOp0_notX (isD_isX hd) h).elim

theorem pure_sound {ops : Array Oper} {o : Oper} {op : AOp} {v : V} (hc : compOp P ops o = some op) (hp : isPure op = true) (hv : pureOp op tm = some v) (hG : GR P φ) (hT : TR φ tm a op.tmps) : Tells P a o φ v w := by
  rcases compOp_spec hc with h | h | h | h | h
  · rw [pureOp_old (compOp0_old h)] at hv; exact pure_sound0 h hp hv hG hT
  · rw [pureOp_old (compM_old h)] at hv; exact pureM h hp hv hG hT
  · exact pureD h hp hv hG hT
  · rw [pureOp_old (compC_old h)] at hv; exact pureC h hp hv hG hT
  · rw [pureOp_old (compX_old h)] at hv; exact pureX h hp hv hG hT
theorem read_sound {ops : Array Oper} {o : Oper} {op : AOp} {v : V} (hc : compOp P ops o = some op) (hp : isRead op = true) (hv : readOp op tm σ = some v) (hG : GR P φ) (hT : TR φ tm a op.tmps) (hR : Rel G B w0 φ σ w) : Tells P a o φ v w := by
  rcases compOp_spec hc with h | h | h | h | h
  · rw [readOp_old (compOp0_old h)] at hv; exact read_sound0 h hp hv hG hT hR
  · rw [readOp_old (compM_old h)] at hv; exact readM h hp hv hG hT hR
  · exact readD h hp hv hG hT hR
  · unfold compC at h
    repeat' (split at h)
    all_goals (first | (cases h; done) | (cases h; simp [isRead] at hp))
  · rw [readOp_old (compX_old h)] at hv; exact readX h hp hv hG hT hR
theorem write_sound {ops : Array Oper} {o : Oper} {op : AOp} {v : V} (hc : compOp P ops o = some op) (hw : isWrite op = true) (hv : writeOp op tm σ = some (v, σ')) (hG : GR P φ) (hT : TR φ tm a op.tmps) (hR : Rel G B w0 φ σ w) : Does P a o G B w0 φ σ' v w := by
  rcases compOp_spec hc with h | h | h | h | h
  · rw [writeOp_old (compOp0_old h)] at hv; exact write_sound0 h hw hv hG hT hR
  · unfold compM at h
    repeat' (split at h)
    all_goals (first | (cases h; done) | (cases h; simp [isWrite] at hw))
  · exact writeD h hw hv hG hT hR
  · rw [writeOp_old (compC_old h)] at hv; exact writeC h hw hv hG hT hR
  · rw [writeOp_old (compX_old h)] at hv; exact writeX h hw hv hG hT hR
end AM
namespace AM
open Go Go.RowKit
set_option linter.unusedVariables false
set_option linter.unusedSimpArgs false
variable {P : Program} {φ : Phi} {tm : T V} {a : Act} {w : World} {w0 : Base} {σ σ' : St} {G B : Nat} {call : CallT}

def DR (P : Program) (φ : Phi) : Dfs → List Deferred → Prop
  | [], m => m = []
  | .call g xs :: r, m => ∃ (cap A : Array Value) (s : List Deferred), m = { target := .fn (.func g) cap, args := A } :: s ∧ LR φ xs (A ++ cap).toList ∧ DR P φ r s
  | .mark a :: r, m => ∃ (b n : Nat) (s : List Deferred), m = { target := .collected b, args := #[] } :: s ∧ φ a = some (b, n) ∧ DR P φ r s
  | .del kk k v :: r, m => ∃ (ats : Array TypeId) (ty : TypeId) (cs : Array Bool) (X Y : Value) (t kt e : TypeId) (s : List Deferred), m = { target := .builtin .delete ats ty cs, args := #[X, Y] } :: s ∧ ats[0]? = some t ∧ P.underlying t = some (.map kt e) ∧ okKey P kt = some kk ∧ VR φ k X ∧ VR φ v Y ∧ DR P φ r s

theorem DR.mono {φ ψ : Phi} (h : φ.le ψ) : ∀ {l : Dfs} {m : List Deferred}, DR P φ l m → DR P ψ l m
  | [], m, k => k
  | .call g xs :: r, m, ⟨cap, A, s, h1, h2, h3⟩ => ⟨cap, A, s, h1, LR.mono h _ _ h2, DR.mono h h3⟩
  | .mark a :: r, m, ⟨b, n, s, h1, h2, h3⟩ => ⟨b, n, s, h1, h _ _ h2, DR.mono h h3⟩
  | .del kk k v :: r, m, ⟨ats, ty, cs, X, Y, t, kt, e, s, h1, h2, h3, h4, h5, h6, h7⟩ => ⟨ats, ty, cs, X, Y, t, kt, e, s, h1, h2, h3, h4, VR.mono h _ _ h5, VR.mono h _ _ h6, DR.mono h h7⟩

structure FR (P : Program) (n : Nat) (φ : Phi) (fr : Fr) (a : Act) : Prop where
  ts : ∀ t, VR φ ((fr.tmps.get t).getD .undef) (a.tmps.getD t Go.undef)
  size : n ≤ a.tmps.size
  ds : DR P φ fr.defers a.defers

theorem FR.mono {n : Nat} {φ ψ : Phi} (h : φ.le ψ) {fr : Fr} {a : Act} (k : FR P n φ fr a) : FR P n ψ fr a :=
  ⟨fun t => VR.mono h _ _ (k.ts t), k.size, k.ds.mono h⟩

theorem FR.tr {n : Nat} {fr : Fr} (k : FR P n φ fr a) (l : List Nat) : TR φ fr.tmps a l := fun t _ => k.ts t

def okDst (n : Nat) (d : Option Nat) : Prop := ∀ t, d = some t → t < n

theorem FR.put {n : Nat} {fr : Fr} (k : FR P n φ fr a) {d : Option Nat} (hd : okDst n d) {v : V} {x : Value} (hv : VR φ v x) {ds : Dfs} {dfs : List Deferred} (hds : DR P φ ds dfs) :
    FR P n φ ⟨putD fr.tmps d v, ds⟩ (({ a with defers := dfs } : Act).put d x) := by
  cases d with
  | none => exact ⟨k.ts, k.size, hds⟩
  | some d =>
    have hlt : d < a.tmps.size := Nat.lt_of_lt_of_le (hd d rfl) k.size
    refine ⟨fun t => ?_, by simp [Act.put]; exact k.size, hds⟩
    simp only [putD, T.get_set, Act.put]
    by_cases e : t = d
    · subst e
      rw [if_pos rfl]
      have : (a.tmps.setIfInBounds t x).getD t Go.undef = x := by simp [Array.getD, hlt]
      rw [this]; exact hv
    · rw [if_neg e]
      have : (a.tmps.setIfInBounds d x).getD t Go.undef = a.tmps.getD t Go.undef := by
        rw [Array.getD_eq_getD_getElem?, Array.getD_eq_getD_getElem?, Array.getElem?_setIfInBounds_ne (Ne.symm e)]
      rw [this]; exact k.ts t
def CPost (G B : Nat) (w0 : Base) (φ : Phi) (σ' : St) (v : V) (e : Ending) (w' : World) : Prop :=
  ∃ φ' x, e = .returned x ∧ φ.le φ' ∧ Rel G B w0 φ' σ' w' ∧ VR φ' v x
abbrev fw (ro : Option Nat) : Fence := { Fence.wide with round := ro }
structure CallSound1 (P : Program) (G : Nat) (call : CallT) : Prop where
  plain : ∀ g xs σ v σ', call (.fn g) xs σ = some (v, σ') → ∀ B w0 φ w (args : Array Value), w0.P = P → Rel G B w0 φ σ w → LR φ xs args.toList →
    ((callFunc g args).run P w = .ok (.enter g args) w ∧ Calls P g args w (CPost G B w0 φ σ' v)) ∨
    ∃ x w' φ', (callFunc g args).run P w = .ok (.value x) w' ∧ φ.le φ' ∧ Rel G B w0 φ' σ' w' ∧ VR φ' v x
  round : ∀ l xs σ v σ', call (.rd l) xs σ = some (v, σ') → ∀ B w0 φ w (args : Array Value) b n, w0.P = P → φ l = some (b, n) → Rel G B w0 φ σ w → LR φ xs args.toList →
    ∃ f tmps asg body, (Instr.yield b args).run P w = .ok (.round b f tmps asg body) w ∧ RoundIn Fence.wide 0 P b f tmps asg body w (CPost G B w0 φ σ' v)
def CPosts (G B : Nat) (w0 : Base) (φ : Phi) (outs : List (V × St)) (e : Ending) (w' : World) : Prop := ∃ o ∈ outs, CPost G B w0 φ o.2 o.1 e w'
structure CallSound (P : Program) (G : Nat) (call : CallN) : Prop where
  plain : ∀ g xs σ outs, call (.fn g) xs σ = some outs → ∀ B w0 φ w (args : Array Value), w0.P = P → Rel G B w0 φ σ w → LR φ xs args.toList →
    ((callFunc g args).run P w = .ok (.enter g args) w ∧ Calls P g args w (CPosts G B w0 φ outs)) ∨
    ∃ x w', (callFunc g args).run P w = .ok (.value x) w' ∧ CPosts G B w0 φ outs (.returned x) w'
  round : ∀ l xs σ outs, call (.rd l) xs σ = some outs → ∀ B w0 φ w (args : Array Value) b n, w0.P = P → φ l = some (b, n) → Rel G B w0 φ σ w → LR φ xs args.toList →
    ∃ f tmps asg body, (Instr.yield b args).run P w = .ok (.round b f tmps asg body) w ∧ RoundIn Fence.wide 0 P b f tmps asg body w (CPosts G B w0 φ outs)

theorem CallSound.det {call : CallN} (h : CallSound P G call) : CallSound1 P G (detC call) := by
  have key : ∀ c xs σ v σ', detC call c xs σ = some (v, σ') → call c xs σ = some [(v, σ')] := by
    intro c xs σ v σ' hc
    unfold detC at hc
    split at hc
    · rename_i r hr; cases hc; exact hr
    · cases hc
  constructor
  · intro g xs σ v σ' hc B w0 φ w args hP hR hL
    rcases h.plain g xs σ _ (key _ _ _ _ _ hc) B w0 φ w args hP hR hL with ⟨h1, h2⟩ | ⟨x, w', h1, o, ho, φ', y, hy, h2, h3, h4⟩
    · exact .inl ⟨h1, h2.mono (by rintro e w' ⟨o, ho, h3⟩; simp at ho; subst ho; exact h3)⟩
    · simp at ho; subst ho
      cases hy
      exact .inr ⟨x, w', φ', h1, h2, h3, h4⟩
  · intro l xs σ v σ' hc B w0 φ w args b n hP ha hR hL
    obtain ⟨f, tmps, asg, body, h1, h2⟩ := h.round l xs σ _ (key _ _ _ _ _ hc) B w0 φ w args b n hP ha hR hL
    exact ⟨f, tmps, asg, body, h1, h2.mono (by rintro e w' ⟨o, ho, h3⟩; simp at ho; subst ho; exact h3)⟩
structure DefSound (P : Program) (G : Nat) (call : CallT) : Prop where
  enter : ∀ g xs σ v σ', call (.fn g) xs σ = some (v, σ') → ∀ args w, (callFunc g args).run P w = .ok (.enter g args) w
  callsD : ∀ g xs σ v σ', call (.fn g) xs σ = some (v, σ') → ∀ B w0 φ w (args : Array Value), w0.P = P → Rel G B w0 φ σ w → LR φ xs args.toList →
    CallsD P g args .returning w fun e u w' => u = .returning ∧ CPost G B w0 φ σ' v e w'

section opers
variable {ro : Option Nat} {o : Oper} {next : Act → World → Prop} {Q : Exit → Act → World → Prop}
theorem Oper.wpI_of (hnd : ro = none ∨ ∀ c, o.op ≠ .defer c) (h : o.uponIn (fw ro) 0 P a next Q ((execOp a.eval o).run P w)) : o.wpIn (fw ro) 0 P a w next Q := by
  refine ⟨fun _ _ => trivial, ?_⟩
  have : o.semAt (fw ro).round a.eval = execOp a.eval o := by
    rcases hnd with rfl | h
    · rfl
    · exact Oper.semAt_eq _ _ _ h
  rw [this]; exact h
theorem Oper.wpI_value {x : Value} {w' : World} (hnd : ro = none ∨ ∀ c, o.op ≠ .defer c) (h : (execOp a.eval o).run P w = .ok (.value x) w') (k : next (a.put o.dst x) w') : o.wpIn (fw ro) 0 P a w next Q :=
  Oper.wpI_of hnd (by rw [h]; exact k)
theorem Oper.wpI_skip {w' : World} (hnd : ro = none ∨ ∀ c, o.op ≠ .defer c) (h : (execOp a.eval o).run P w = .ok .skip w') (k : next (a.put o.dst Go.undef) w') : o.wpIn (fw ro) 0 P a w next Q :=
  Oper.wpI_of hnd (by rw [h]; exact k)
theorem Oper.wpI_enter {g : FuncId} {args : Array Value} {w' : World} {R : Ending → World → Prop} (hnd : ro = none ∨ ∀ c, o.op ≠ .defer c) (h : (execOp a.eval o).run P w = .ok (.enter g args) w')
    (hc : Calls P g args w' R) (k : ∀ e w'', R e w'' → ∃ x, e = .returned x ∧ next (a.put o.dst x) w'') : o.wpIn (fw ro) 0 P a w next Q := by
  refine Oper.wpI_of hnd ?_
  rw [h]
  refine ⟨fun hd => by simp [Fence.wide] at hd, ?_⟩
  have hci : CallsIn (fw ro) (0 - 1) P g args w' R := callsIn_wide.2 hc
  refine hci.mono ?_
  intro e w'' hr
  obtain ⟨x, rfl, hk⟩ := k e w'' hr
  exact hk
theorem Oper.wpI_round {l : Nat} {f : FuncId} {tmps : Array Value} {asg body : Code} {w' : World} {R : Ending → World → Prop} (hnd : ro = none ∨ ∀ c, o.op ≠ .defer c)
    (h : (execOp a.eval o).run P w = .ok (.round l f tmps asg body) w') (hc : RoundIn Fence.wide 0 P l f tmps asg body w' R) (k : ∀ e w'', R e w'' → ∃ x, e = .returned x ∧ next (a.put o.dst x) w'') : o.wpIn (fw ro) 0 P a w next Q := by
  refine Oper.wpI_of hnd ?_
  rw [h]
  refine ⟨fun hd => by simp [Fence.wide] at hd, ?_⟩
  have hci : RoundIn (fw ro) (0 - 1) P l f tmps asg body w' R := hc
  refine hci.mono ?_
  intro e w'' hr
  obtain ⟨x, rfl, hk⟩ := k e w'' hr
  exact hk
end opers
def Goes (op : AOp) : Prop := (∃ g xs, op = .call g xs) ∨ (∃ g xs, op = .callv g xs) ∨ (∃ g xs, op = .defer g xs) ∨ (∃ g xs, op = .deferv g xs)

def goesB : AOp → Bool
  | .call .. | .callv .. | .defer .. | .deferv .. => true
  | _ => false
theorem Goes.b {op : AOp} (h : Goes op) : goesB op = true := by
  rcases h with ⟨g, xs, rfl⟩ | ⟨g, xs, rfl⟩ | ⟨g, xs, rfl⟩ | ⟨g, xs, rfl⟩ <;> rfl

theorem cBuiltin_no {b : Builtin} {ats : Array TypeId} {args : List Operand} {op : AOp} (hg : Goes op) (h : cBuiltin P b ats args = some op) : False := by
  have hg := hg.b
  unfold cBuiltin at h
  repeat' (split at h)
  all_goals (first | (cases h; done) | (cases h; simp [goesB] at hg))

theorem compOp_no {dst : Option Tmp} {type : TypeId} {pos : String} {after : Array Edge} {guard : Option (Nat × Bool)} {o : Op} {op : AOp} (hg : Goes op) (h1 : ∀ c, o ≠ .call c) (h2 : ∀ c, o ≠ .defer c)
    (h : compOp0 P ⟨dst, o, type, pos, after, guard⟩ = some op) : False := by
  have hg := hg.b
  cases o with
  | call c => exact h1 c rfl
  | defer c => exact h2 c rfl
  | load t x => simp only [compOp0, cLoad] at h; split at h <;> cases h; simp [goesB] at hg
  | binOp op t x y yt =>
    simp only [compOp0, cBin] at h
    repeat' (split at h)
    all_goals (first | (cases h; done) | (cases h; simp [goesB] at hg))
  | slice t x lo hi mx =>
    simp only [compOp0, cSlice] at h
    repeat' (split at h)
    all_goals (first | (cases h; done) | (cases h; simp [goesB] at hg))
  | makeMap t r => cases r <;> simp only [compOp0] at h <;> cases h; simp [goesB] at hg
  | makeFunc fn x c => cases fn <;> simp only [compOp0] at h <;> (try (cases h; done)); split at h <;> cases h; simp [goesB] at hg
  | move x => simp only [compOp0] at h; split at h <;> cases h; simp [goesB] at hg
  | assign x => simp only [compOp0] at h; split at h <;> cases h; simp [goesB] at hg
  | alloc t | box t x | build t ps | buildSlice t l ps | store t x y | nilCheck x | unOp u t x | convert s d x | makeSlice t l c | fieldAddr s x i | field t x i | indexAddr t x i | index t x i | lookup t m k ok | mapUpdate t m k x | extract x i | pick c x y =>
    simp only [compOp0] at h
    repeat' (split at h)
    all_goals (first | (cases h; done) | (cases h; simp [goesB] at hg))
  | _ => simp [compOp0] at h

theorem writeOp_isWrite {op : AOp} {r : V × St} (h : writeOp op tm σ = some r) : isWrite op = true := by
  cases op <;> first | rfl | (simp [writeOp, writeOp0] at h)

theorem compX_call {o : Oper} {op : AOp} {c : Call} (h : compX P o = some op) (ho : o.op = .call c) : ∃ r name xs a, c.callee = .invoke r name ∧ opd P r = some a ∧ opds P c.args.toList = some xs ∧ op = .invoke (methTbl P name) a xs := by
  unfold compX at h
  rw [ho] at h
  simp only at h
  split at h
  · rename_i r name hcal
    split at h
    · rename_i a xs ha hxs
      cases h
      exact ⟨r, name, xs, a, hcal, ha, hxs, rfl⟩
    · cases h
  · cases h

theorem comp_invoke {dst : Option Tmp} {op' : Op} {type : TypeId} {pos : String} {after : Array Edge} {guard : Option (Nat × Bool)} {tbl : List (TypeId × FuncId)} {x : Opd} {xs : List Opd} {ops : Array Oper} (hc : compOp P ops ⟨dst, op', type, pos, after, guard⟩ = some (.invoke tbl x xs)) :
    ∃ r name args ats, op' = .call ⟨.invoke r name, args, ats⟩ ∧ opd P r = some x ∧ opds P args.toList = some xs ∧ tbl = methTbl P name := by
  rcases compOp_spec hc with h | h | h | h | h
  · exact (compOp0_notX rfl h).elim
  · unfold compM at h
    repeat' (split at h)
    all_goals (cases h; done)
  · unfold compD at h
    repeat' (split at h)
    all_goals (cases h; done)
  · unfold compC at h
    repeat' (split at h)
    all_goals (cases h; done)
  · cases op' with
    | call c =>
      obtain ⟨r, name, xs', a', hcal, ha, hxs, he⟩ := compX_call h rfl
      obtain ⟨callee, args, ats⟩ := c
      simp only at hcal
      subst hcal
      cases he
      exact ⟨r, name, args, ats, rfl, ha, hxs, rfl⟩
    | _ =>
      unfold compX at h
      simp only at h
      repeat' (split at h)
      all_goals (first | contradiction | (cases h; done))

theorem comp_deferD {dst : Option Tmp} {op' : Op} {type : TypeId} {pos : String} {after : Array Edge} {guard : Option (Nat × Bool)} {kk : Kk} {m q : Opd} {ops : Array Oper} (hc : compOp P ops ⟨dst, op', type, pos, after, guard⟩ = some (.deferD kk m q)) :
    ∃ ats x y t kt e, op' = .defer ⟨.builtin .delete, #[x, y], ats⟩ ∧ ats[0]? = some t ∧ P.underlying t = some (.map kt e) ∧ okKey P kt = some kk ∧ opd P x = some m ∧ opd P y = some q := by
  rcases compOp_spec hc with h | h | h | h | h
  · exact (compOp0_notX rfl h).elim
  · unfold compM at h
    repeat' (split at h)
    all_goals (cases h; done)
  · unfold compD at h
    repeat' (split at h)
    all_goals (cases h; done)
  · unfold compC at h
    repeat' (split at h)
    all_goals (cases h; done)
  · cases op' with
    | defer c =>
      obtain ⟨callee, args, ats⟩ := c
      unfold compX at h
      simp only at h
      split at h
      · split at h
        · rename_i t x y hat hargs
          split at h
          · rename_i kt e a' b' hu hx hy
            split at h
            · rename_i kk' hkk
              cases h
              have e1 : args = #[x, y] := by cases args; simp_all
              subst e1
              exact ⟨ats, x, y, t, kt, e, rfl, hat, hu, hkk, hx, hy⟩
            · cases h
          · cases h
        · cases h
      · cases h
    | call c =>
      obtain ⟨r, name, xs', a', hcal, ha, hxs, he⟩ := compX_call h rfl
      cases he
    | _ =>
      unfold compX at h
      simp only at h
      repeat' (split at h)
      all_goals (first | contradiction | (cases h; done))

theorem invoke_run {dst : Option Tmp} {type : TypeId} {pos : String} {after : Array Edge} {guard : Option (Nat × Bool)} {r : Operand} {name : String} {args : Array Operand} {ats : Array TypeId} {t : TypeId} {X : Value} {f : FuncId}
    (hX : a.eval r = .iface t X) (hm : (method (P.types.size + Made.depth) t X name).run P w = .ok (f, X) w) :
    (execOp a.eval ⟨dst, .call ⟨.invoke r name, args, ats⟩, type, pos, after, guard⟩).run P w = (callFunc f (#[X] ++ args.map a.eval)).run P w := by
  have h0 : ((#[Value.iface t X] ++ args.map a.eval)[0]? : Option Value) = some (.iface t X) := by rw [Array.getElem?_append_left (by simp)]; rfl
  have h1 : (#[Value.iface t X] ++ args.map a.eval).extract 1 (#[Value.iface t X] ++ args.map a.eval).size = args.map a.eval := by
    apply Array.ext'
    simp
    exact List.take_of_length_le (by simp)
  simp only [execOp, resolve, hX, invoke, Sem.run_bind, Sem.run_pure, Result.andThen_ok, h0, h1, callMethod, program, Sem.run, hm]

theorem evalOp_sound (hcall : CallSound1 P G call) {ro : Option Nat} {o : Oper} {op : AOp} {ds ds' : Dfs} {v : V} {ops : Array Oper} (hc : compOp P ops o = some op) (hv : evalOp call op tm ds σ = some (v, ds', σ')) (hGP : P.globals.size ≤ G)
    (hT : TR φ tm a op.tmps) (hD : DR P φ ds a.defers) (hP : w0.P = P) (hnd : ro = none ∨ ∀ c, o.op ≠ .defer c) (hR : Rel G B w0 φ σ w) {next : Act → World → Prop} {Q : Exit → Act → World → Prop}
    (k : ∀ φ' x w' dfs, φ.le φ' → Rel G B w0 φ' σ' w' → VR φ' v x → DR P φ' ds' dfs → next (({ a with defers := dfs } : Act).put o.dst x) w') : o.wpIn (fw ro) 0 P a w next Q := by
  have hG : GR P φ := fun g hg => (hR.glob g (by omega)).2
  unfold evalOp at hv
  split at hv
  · rename_i hp
    split at hv
    · rename_i u hu
      simp only [Option.some.injEq, Prod.mk.injEq] at hv
      obtain ⟨rfl, rfl, rfl⟩ := hv
      obtain ⟨x, hx, hvx⟩ := pure_sound (w := w) hc hp hu hG hT
      exact Oper.wpI_value hnd hx (k φ x w a.defers (Phi.le.refl _) hR hvx hD)
    · cases hv
  · split at hv
    · rename_i hp
      split at hv
      · rename_i u hu
        simp only [Option.some.injEq, Prod.mk.injEq] at hv
        obtain ⟨rfl, rfl, rfl⟩ := hv
        obtain ⟨x, hx, hvx⟩ := read_sound (w := w) hc hp hu hG hT hR
        exact Oper.wpI_value hnd hx (k φ x w a.defers (Phi.le.refl _) hR hvx hD)
      · cases hv
    · have hwrite : isWrite op = true → ∀ {r}, writeOp op tm σ = some r → some (r.1, ds, r.2) = some (v, ds', σ') → o.wpIn (fw ro) 0 P a w next Q := by
        intro hw r hr he
        simp only [Option.some.injEq, Prod.mk.injEq] at he
        obtain ⟨rfl, rfl, rfl⟩ := he
        obtain ⟨x, w', φ', hrun, hle, hR', hvx⟩ := write_sound (w := w) hc hw hr hG hT hR
        rcases hrun with hrun | ⟨hrun, rfl⟩
        · exact Oper.wpI_value hnd hrun (k φ' x w' a.defers hle hR' hvx (hD.mono hle))
        · exact Oper.wpI_skip hnd hrun (k φ' Go.undef w' a.defers hle hR' hvx (hD.mono hle))
      obtain ⟨dst, op', type, pos, after, guard⟩ := o
      split at hv
      · -- call
        rename_i g xs _ _
        split at hv
        · rename_i u σ2 hcl
          simp only [Option.some.injEq, Prod.mk.injEq] at hv
          obtain ⟨rfl, rfl, rfl⟩ := hv
          have hc := (compOp_spec hc).resolve_right (fun h => by have := compY_isX h; simp [isX] at this)
          have hcomp : ∃ args : Array Operand, ∃ ats, op' = .call ⟨.value (.func g), args, ats⟩ ∧ opds P args.toList = some xs := by
            cases op' with
            | call c =>
              obtain ⟨callee, args, ats⟩ := c
              cases callee with
              | value f =>
                simp only [compOp0] at hc
                split at hc
                · rename_i ys hys
                  split at hc
                  · cases hc; exact ⟨args, ats, rfl, hys⟩
                  · split at hc <;> cases hc
                · cases hc
              | invoke r m => simp [compOp0] at hc
              | builtin b => simp only [compOp0] at hc; exact (cBuiltin_no (.inl ⟨g, xs, rfl⟩) hc).elim
            | defer c =>
              obtain ⟨callee, args, ats⟩ := c
              cases callee with
              | value f =>
                simp only [compOp0] at hc
                split at hc
                · split at hc
                  · cases hc
                  · split at hc <;> cases hc
                · cases hc
              | invoke r m => simp [compOp0] at hc
              | builtin b => simp [compOp0] at hc
            | _ => exact (compOp_no (.inl ⟨g, xs, rfl⟩) (by simp) (by simp) hc).elim
          obtain ⟨args, ats, rfl, hxs⟩ := hcomp
          have hr := opds_rel (tm := tm) (a := a) hG hxs hT
          have hr' : LR φ (xs.map (·.eval tm)) (args.map a.eval).toList := by simpa using hr
          rcases hcall.plain g _ σ _ _ hcl B w0 φ w _ hP hR hr' with ⟨he, hcs⟩ | ⟨x, w', φ', he, h1, h2, h3⟩
          · refine Oper.wpI_enter hnd (g := g) (args := args.map a.eval) (w' := w) ?_ hcs (by rintro e w'' ⟨φ', x, rfl, h1, h2, h3⟩; exact ⟨x, rfl, k φ' x w'' a.defers h1 h2 h3 (hD.mono h1)⟩)
            simp [execOp, resolve, Deferred.ofValue, Act.eval, invoke, he]
          · refine Oper.wpI_value hnd (x := x) (w' := w') ?_ (k φ' x w' a.defers h1 h2 h3 (hD.mono h1))
            simp [execOp, resolve, Deferred.ofValue, Act.eval, invoke, he]
        · cases hv
      · -- callv
        rename_i g xs _ _
        split at hv
        · rename_i f first cap hf
          split at hv
          · rename_i u σ2 hcl
            simp only [Option.some.injEq, Prod.mk.injEq] at hv
            obtain ⟨rfl, rfl, rfl⟩ := hv
            have hc := (compOp_spec hc).resolve_right (fun h => by have := compY_isX h; simp [isX] at this)
            have hcomp : ∃ (y : Operand) (args : Array Operand), ∃ ats, op' = .call ⟨.value y, args, ats⟩ ∧ opd P y = some g ∧ opds P args.toList = some xs := by
              cases op' with
              | call c =>
                obtain ⟨callee, args, ats⟩ := c
                cases callee with
                | value y =>
                  simp only [compOp0] at hc
                  split at hc
                  · rename_i ys hys
                    split at hc
                    · cases hc
                    · split at hc
                      · rename_i z hz; cases hc; exact ⟨y, args, ats, rfl, hz, hys⟩
                      · cases hc
                  · cases hc
                | invoke r m => simp [compOp0] at hc
                | builtin b => simp only [compOp0] at hc; exact (cBuiltin_no (.inr (.inl ⟨g, xs, rfl⟩)) hc).elim
              | defer c =>
                obtain ⟨callee, args, ats⟩ := c
                cases callee with
                | value f =>
                  simp only [compOp0] at hc
                  split at hc
                  · split at hc
                    · cases hc
                    · split at hc <;> cases hc
                  · cases hc
                | invoke r m => simp [compOp0] at hc
                | builtin b => simp [compOp0] at hc
              | _ => exact (compOp_no (.inr (.inl ⟨g, xs, rfl⟩)) (by simp) (by simp) hc).elim
            obtain ⟨y, args, ats, rfl, hy, hxs⟩ := hcomp
            have hr0 := opd_rel (tm := tm) (a := a) hG hy hT.left
            have hr := opds_rel (tm := tm) (a := a) hG hxs hT.right
            rw [hf] at hr0
            obtain ⟨F, C, hF, hrF, hrC⟩ := hr0
            have hr' : LR φ (first ++ xs.map (·.eval tm) ++ cap) (F ++ args.map a.eval ++ C).toList := by
              simp only [Array.toList_append, Array.toList_map]
              exact LR.append (LR.append hrF hr) hrC
            rcases hcall.plain f _ σ _ _ hcl B w0 φ w _ hP hR hr' with ⟨he, hcs⟩ | ⟨x, w', φ', he, h1, h2, h3⟩
            · refine Oper.wpI_enter hnd (g := f) (args := F ++ args.map a.eval ++ C) (w' := w) ?_ hcs (by rintro e w'' ⟨φ', x, rfl, h1, h2, h3⟩; exact ⟨x, rfl, k φ' x w'' a.defers h1 h2 h3 (hD.mono h1)⟩)
              simp only [execOp, resolve, Deferred.ofValue, hF, invoke, Sem.run_bind, Sem.run_pure, Result.andThen_ok]
              exact he
            · refine Oper.wpI_value hnd (x := x) (w' := w') ?_ (k φ' x w' a.defers h1 h2 h3 (hD.mono h1))
              simp only [execOp, resolve, Deferred.ofValue, hF, invoke, Sem.run_bind, Sem.run_pure, Result.andThen_ok]
              exact he
          · cases hv
        · rename_i l hf
          split at hv
          · rename_i u σ2 hcl
            simp only [Option.some.injEq, Prod.mk.injEq] at hv
            obtain ⟨rfl, rfl, rfl⟩ := hv
            have hc := (compOp_spec hc).resolve_right (fun h => by have := compY_isX h; simp [isX] at this)
            have hcomp : ∃ (y : Operand) (args : Array Operand), ∃ ats, op' = .call ⟨.value y, args, ats⟩ ∧ opd P y = some g ∧ opds P args.toList = some xs := by
              cases op' with
              | call c =>
                obtain ⟨callee, args, ats⟩ := c
                cases callee with
                | value y =>
                  simp only [compOp0] at hc
                  split at hc
                  · rename_i ys hys
                    split at hc
                    · cases hc
                    · split at hc
                      · rename_i z hz; cases hc; exact ⟨y, args, ats, rfl, hz, hys⟩
                      · cases hc
                  · cases hc
                | invoke r m => simp [compOp0] at hc
                | builtin b => simp only [compOp0] at hc; exact (cBuiltin_no (.inr (.inl ⟨g, xs, rfl⟩)) hc).elim
              | defer c =>
                obtain ⟨callee, args, ats⟩ := c
                cases callee with
                | value f =>
                  simp only [compOp0] at hc
                  split at hc
                  · split at hc
                    · cases hc
                    · split at hc <;> cases hc
                  · cases hc
                | invoke r m => simp [compOp0] at hc
                | builtin b => simp [compOp0] at hc
              | _ => exact (compOp_no (.inr (.inl ⟨g, xs, rfl⟩)) (by simp) (by simp) hc).elim
            obtain ⟨y, args, ats, rfl, hy, hxs⟩ := hcomp
            have hr0 := opd_rel (tm := tm) (a := a) hG hy hT.left
            have hr := opds_rel (tm := tm) (a := a) hG hxs hT.right
            rw [hf] at hr0
            obtain ⟨b, n, hb, hF⟩ := hr0
            have hr' : LR φ (xs.map (·.eval tm)) (args.map a.eval).toList := by simpa using hr
            obtain ⟨f, tmps, asg, body, hy2, hrd⟩ := hcall.round l _ σ _ _ hcl B w0 φ w _ b n hP hb hR hr'
            refine Oper.wpI_round hnd (l := b) (f := f) (tmps := tmps) (asg := asg) (body := body) (w' := w) ?_ hrd (by rintro e w'' ⟨φ', x, rfl, h1, h2, h3⟩; exact ⟨x, rfl, k φ' x w'' a.defers h1 h2 h3 (hD.mono h1)⟩)
            simp [execOp, resolve, Deferred.ofValue, hF, invoke, hy2]
          · cases hv
        · cases hv
      · -- invoke
        rename_i tbl g xs _ _
        split at hv
        · rename_i t v1 hf
          split at hv
          · rename_i f hft
            split at hv
            · rename_i u σ2 hcl
              simp only [Option.some.injEq, Prod.mk.injEq] at hv
              obtain ⟨rfl, rfl, rfl⟩ := hv
              obtain ⟨r, name, args, ats, rfl, hy, hxs, rfl⟩ := comp_invoke hc
              have hr0 := opd_rel (tm := tm) (a := a) hG hy hT.left
              have hr := opds_rel (tm := tm) (a := a) hG hxs hT.right
              rw [hf] at hr0
              obtain ⟨X, hX, hrX⟩ := hr0
              have hr' : LR φ (v1 :: xs.map (·.eval tm)) (#[X] ++ args.map a.eval).toList := by
                simp only [Array.toList_append, Array.toList_map]
                exact LR.cons hrX hr
              have hm := method_run (P := P) hft X w
              have hrun := invoke_run (P := P) (w := w) (a := a) (dst := dst) (type := type) (pos := pos) (after := after) (guard := guard) (ats := ats) (args := args) hX hm
              rcases hcall.plain f _ σ _ _ hcl B w0 φ w _ hP hR hr' with ⟨he, hcs⟩ | ⟨x, w', φ', he, h1, h2, h3⟩
              · exact Oper.wpI_enter hnd (g := f) (args := #[X] ++ args.map a.eval) (w' := w) (by rw [hrun]; exact he) hcs (by rintro e w'' ⟨φ', x, rfl, h1, h2, h3⟩; exact ⟨x, rfl, k φ' x w'' a.defers h1 h2 h3 (hD.mono h1)⟩)
              · exact Oper.wpI_value hnd (x := x) (w' := w') (by rw [hrun]; exact he) (k φ' x w' a.defers h1 h2 h3 (hD.mono h1))
            · cases hv
          · cases hv
        · cases hv
      · -- deferD
        rename_i kk m q _ _
        simp only [Option.some.injEq, Prod.mk.injEq] at hv
        obtain ⟨rfl, rfl, rfl⟩ := hv
        obtain ⟨ats, x, y, t, kt, e, rfl, hat, hu, hkk, hx, hy⟩ := comp_deferD hc
        have r1 := opd_rel (tm := tm) (a := a) hG hx hT.left
        have r2 := opd_rel (tm := tm) (a := a) hG hy hT.right
        obtain ⟨cs, hrun⟩ : ∃ cs, (execOp a.eval ⟨dst, .defer ⟨.builtin .delete, #[x, y], ats⟩, type, pos, after, guard⟩).run P w = .ok (.defer { target := .builtin .delete ats type cs, args := #[a.eval x, a.eval y] }) w := by
          have harr : #[x, y].map a.eval = #[a.eval x, a.eval y] := by simp
          rw [← harr]
          exact ⟨_, rfl⟩
        have hd : DR P φ (.del kk (m.eval tm) (q.eval tm) :: ds) ({ target := .builtin .delete ats type cs, args := #[a.eval x, a.eval y] } :: a.defers) :=
          ⟨ats, type, cs, a.eval x, a.eval y, t, kt, e, a.defers, rfl, hat, hu, hkk, r1, r2, hD⟩
        refine Oper.wpI_of hnd ?_
        rw [hrun]
        exact k φ Go.undef w _ (Phi.le.refl _) hR VR.undef hd
      · -- defer
        rename_i g xs _ _
        simp only [Option.some.injEq, Prod.mk.injEq] at hv
        obtain ⟨rfl, rfl, rfl⟩ := hv
        have hc := (compOp_spec hc).resolve_right (fun h => by have := compY_isX h; simp [isX] at this)
        have hcomp : ∃ args : Array Operand, ∃ ats, op' = .defer ⟨.value (.func g), args, ats⟩ ∧ opds P args.toList = some xs := by
          cases op' with
          | defer c =>
            obtain ⟨callee, args, ats⟩ := c
            cases callee with
            | value f =>
              simp only [compOp0] at hc
              split at hc
              · rename_i ys hys
                split at hc
                · cases hc; exact ⟨args, ats, rfl, hys⟩
                · split at hc <;> cases hc
              · cases hc
            | invoke r m => simp [compOp0] at hc
            | builtin b => simp [compOp0] at hc
          | call c =>
            obtain ⟨callee, args, ats⟩ := c
            cases callee with
            | value f =>
              simp only [compOp0] at hc
              split at hc
              · split at hc
                · cases hc
                · split at hc <;> cases hc
              · cases hc
            | invoke r m => simp [compOp0] at hc
            | builtin b => simp only [compOp0] at hc; exact (cBuiltin_no (.inr (.inr (.inl ⟨g, xs, rfl⟩))) hc).elim
          | _ => exact (compOp_no (.inr (.inr (.inl ⟨g, xs, rfl⟩))) (by simp) (by simp) hc).elim
        obtain ⟨args, ats, rfl, hxs⟩ := hcomp
        have hr := opds_rel (tm := tm) (a := a) hG hxs hT
        have hd : DR P φ (.call g (xs.map (·.eval tm)) :: ds) ({ target := .fn (.func g) #[], args := args.map a.eval } :: a.defers) :=
          ⟨#[], args.map a.eval, a.defers, rfl, by simpa using hr, hD⟩
        refine Oper.wpI_of hnd ?_
        have : (execOp a.eval ⟨dst, .defer ⟨.value (.func g), args, ats⟩, type, pos, after, guard⟩).run P w = .ok (.defer { target := .fn (.func g) #[], args := args.map a.eval }) w := by
          simp [execOp, resolve, Deferred.ofValue, Act.eval]
        rw [this]
        exact k φ Go.undef w _ (Phi.le.refl _) hR VR.undef hd
      · -- deferv
        rename_i g xs _ _
        split at hv
        · rename_i f first cap hf
          simp only [Option.some.injEq, Prod.mk.injEq] at hv
          obtain ⟨rfl, rfl, rfl⟩ := hv
          have hc := (compOp_spec hc).resolve_right (fun h => by have := compY_isX h; simp [isX] at this)
          have hcomp : ∃ (y : Operand) (args : Array Operand), ∃ ats, op' = .defer ⟨.value y, args, ats⟩ ∧ opd P y = some g ∧ opds P args.toList = some xs := by
            cases op' with
            | defer c =>
              obtain ⟨callee, args, ats⟩ := c
              cases callee with
              | value y =>
                simp only [compOp0] at hc
                split at hc
                · rename_i ys hys
                  split at hc
                  · cases hc
                  · split at hc
                    · rename_i z hz; cases hc; exact ⟨y, args, ats, rfl, hz, hys⟩
                    · cases hc
                · cases hc
              | invoke r m => simp [compOp0] at hc
              | builtin b => simp [compOp0] at hc
            | call c =>
              obtain ⟨callee, args, ats⟩ := c
              cases callee with
              | value y =>
                simp only [compOp0] at hc
                split at hc
                · split at hc
                  · cases hc
                  · split at hc <;> cases hc
                · cases hc
              | invoke r m => simp [compOp0] at hc
              | builtin b => simp only [compOp0] at hc; exact (cBuiltin_no (.inr (.inr (.inr ⟨g, xs, rfl⟩))) hc).elim
            | _ => exact (compOp_no (.inr (.inr (.inr ⟨g, xs, rfl⟩))) (by simp) (by simp) hc).elim
          obtain ⟨y, args, ats, rfl, hy, hxs⟩ := hcomp
          have hr0 := opd_rel (tm := tm) (a := a) hG hy hT.left
          have hr := opds_rel (tm := tm) (a := a) hG hxs hT.right
          rw [hf] at hr0
          obtain ⟨F, C, hF, hrF, hrC⟩ := hr0
          have hd : DR P φ (.call f (first ++ xs.map (·.eval tm) ++ cap) :: ds) ({ target := .fn (.func f) C, args := F ++ args.map a.eval } :: a.defers) :=
            ⟨C, F ++ args.map a.eval, a.defers, rfl, by simp only [Array.toList_append, Array.toList_map]; exact LR.append (LR.append hrF hr) hrC, hD⟩
          refine Oper.wpI_of hnd ?_
          have : (execOp a.eval ⟨dst, .defer ⟨.value y, args, ats⟩, type, pos, after, guard⟩).run P w = .ok (.defer { target := .fn (.func f) C, args := F ++ args.map a.eval }) w := by
            simp [execOp, resolve, Deferred.ofValue, hF]
          rw [this]
          exact k φ Go.undef w _ (Phi.le.refl _) hR VR.undef hd
        · cases hv
      · rename_i op hn1 hn2 hn3 hn4 hn5 hn6
        split at hv
        · rename_i u σ2 hw
          refine hwrite ?_ hw (by simpa using hv)
          exact writeOp_isWrite hw
        · cases hv

theorem comp_call {dst : Option Tmp} {op' : Op} {type : TypeId} {pos : String} {after : Array Edge} {guard : Option (Nat × Bool)} {g : FuncId} {xs : List Opd} {ops : Array Oper} (hc : compOp P ops ⟨dst, op', type, pos, after, guard⟩ = some (.call g xs)) :
    ∃ args : Array Operand, ∃ ats, op' = .call ⟨.value (.func g), args, ats⟩ ∧ opds P args.toList = some xs := by
  have hc := (compOp_spec hc).resolve_right (fun h => by have := compY_isX h; simp [isX] at this)
  cases op' with
  | call c =>
    obtain ⟨callee, args, ats⟩ := c
    cases callee with
    | value f =>
      simp only [compOp0] at hc
      split at hc
      · rename_i ys hys
        split at hc
        · cases hc; exact ⟨args, ats, rfl, hys⟩
        · split at hc <;> cases hc
      · cases hc
    | invoke r m => simp [compOp0] at hc
    | builtin b => simp only [compOp0] at hc; exact (cBuiltin_no (.inl ⟨g, xs, rfl⟩) hc).elim
  | defer c =>
    obtain ⟨callee, args, ats⟩ := c
    cases callee with
    | value f =>
      simp only [compOp0] at hc
      split at hc
      · split at hc
        · cases hc
        · split at hc <;> cases hc
      · cases hc
    | invoke r m => simp [compOp0] at hc
    | builtin b => simp [compOp0] at hc
  | _ => exact (compOp_no (.inl ⟨g, xs, rfl⟩) (by simp) (by simp) hc).elim


theorem comp_callv {dst : Option Tmp} {op' : Op} {type : TypeId} {pos : String} {after : Array Edge} {guard : Option (Nat × Bool)} {g : Opd} {xs : List Opd} {ops : Array Oper} (hc : compOp P ops ⟨dst, op', type, pos, after, guard⟩ = some (.callv g xs)) :
    ∃ (y : Operand) (args : Array Operand), ∃ ats, op' = .call ⟨.value y, args, ats⟩ ∧ opd P y = some g ∧ opds P args.toList = some xs := by
  have hc := (compOp_spec hc).resolve_right (fun h => by have := compY_isX h; simp [isX] at this)
  cases op' with
  | call c =>
    obtain ⟨callee, args, ats⟩ := c
    cases callee with
    | value y =>
      simp only [compOp0] at hc
      split at hc
      · rename_i ys hys
        split at hc
        · cases hc
        · split at hc
          · rename_i z hz; cases hc; exact ⟨y, args, ats, rfl, hz, hys⟩
          · cases hc
      · cases hc
    | invoke r m => simp [compOp0] at hc
    | builtin b => simp only [compOp0] at hc; exact (cBuiltin_no (.inr (.inl ⟨g, xs, rfl⟩)) hc).elim
  | defer c =>
    obtain ⟨callee, args, ats⟩ := c
    cases callee with
    | value f =>
      simp only [compOp0] at hc
      split at hc
      · split at hc
        · cases hc
        · split at hc <;> cases hc
      · cases hc
    | invoke r m => simp [compOp0] at hc
    | builtin b => simp [compOp0] at hc
  | _ => exact (compOp_no (.inr (.inl ⟨g, xs, rfl⟩)) (by simp) (by simp) hc).elim


theorem wanted_rel {n : Nat} {ops : Array Oper} {o : Oper} {ao : AOper} (hc : compOper P n ops o = some ao) (ht : ∀ t ∈ (match ao.guard with | some (t, _) => [t] | none => []), VR φ ((tm.get t).getD .undef) (a.tmps.getD t Go.undef)) :
    Region.wanted o (yielded ops a.tmps) = wantedA ao.guard tm := by
  unfold compOper at hc
  split at hc
  · split at hc
    · cases hc
    · split at hc
      · rename_i hg
        cases hc
        simp [Region.wanted, hg, wantedA]
      · rename_i j b hg
        split at hc
        · rename_i t hj
          cases hc
          have hv := ht t (by simp)
          simp only [Region.wanted, hg, wantedA, yielded, hj, Option.bind_some]
          have hval : ∀ c, a.tmps[t]? = some (.bool c) ↔ tm.get t = some (.bool c) := by
            intro c
            constructor
            · intro h
              have h1 : a.tmps.getD t Go.undef = .bool c := by rw [Array.getD_eq_getD_getElem?, h]; rfl
              rw [h1] at hv
              cases htm : tm.get t with
              | none => rw [htm] at hv; obtain ⟨C, hC, _⟩ := hv; cases hC
              | some u =>
                rw [htm] at hv
                simp only [Option.getD_some] at hv
                cases u with
                | bool d => have : Value.bool c = Value.bool d := hv; cases this; rfl
                | int k m => cases hv
                | str s => obtain ⟨bs, h, _⟩ := hv; cases h
                | ptr q => cases q with | none => cases hv | some q => obtain ⟨_, _, _, h⟩ := hv; cases h
                | slice q l e => cases q with | none => cases hv.2 | some q => obtain ⟨_, _, _, _, _, h, _⟩ := hv; cases h
                | map q => cases q with | none => cases hv | some q => obtain ⟨_, _, _, h⟩ := hv; cases h
                | func f x y => obtain ⟨_, _, h, _⟩ := hv; cases h
                | yield l => obtain ⟨_, _, _, h⟩ := hv; cases h
                | sliceC q l e c => obtain ⟨_, _, _, _, _, h, _⟩ := hv; cases h
                | sliceX q o l e => obtain ⟨_, _, _, _, _, _, _, _, h, _⟩ := hv; cases h
                | ptrX q o => obtain ⟨_, _, _, _, _, _, h⟩ := hv; cases h
                | mval nm t v => obtain ⟨_, h, _⟩ := hv; cases h
                | nilFunc => cases hv
                | iface t v => obtain ⟨_, h, _⟩ := hv; cases h
                | nilIface => cases hv
                | agg cs => obtain ⟨_, h, _⟩ := hv; cases h
                | tuple cs => obtain ⟨_, h, _⟩ := hv; cases h
            · intro h
              rw [h] at hv
              have hv : a.tmps.getD t Go.undef = .bool c := hv
              rw [Array.getD_eq_getD_getElem?] at hv
              cases hq : a.tmps[t]? with
              | none => rw [hq] at hv; simp [Go.undef] at hv
              | some u => rw [hq] at hv; simp at hv; rw [hv]
          cases htm : tm.get t with
          | none =>
            have : ∀ c, a.tmps[t]? ≠ some (.bool c) := fun c h => by have := (hval c).1 h; rw [htm] at this; cases this
            cases hq : a.tmps[t]? with
            | none => simp
            | some u => cases u <;> simp_all
          | some u =>
            cases u with
            | bool c => rw [(hval c).2 htm]; simp
            | _ =>
              have : ∀ c, a.tmps[t]? ≠ some (.bool c) := fun c h => by have := (hval c).1 h; rw [htm] at this; cases this
              cases hq : a.tmps[t]? with
              | none => simp
              | some u => cases u <;> simp_all
        · cases hc
  · cases hc
end AM
namespace AM
open Go Go.RowKit
set_option linter.unusedVariables false
set_option linter.unusedSimpArgs false
variable {P : Program} {φ : Phi} {tm : T V} {a : Act} {w : World} {w0 : Base} {σ σ' : St} {G B : Nat} {call : CallT}

theorem compOper_spec {n : Nat} {ops : Array Oper} {o : Oper} {ao : AOper} (hc : compOper P n ops o = some ao) : compOp P ops o = some ao.op ∧ ao.dst = o.dst ∧ okDst n o.dst := by
  unfold compOper at hc
  split at hc
  · rename_i hd
    have hok : okDst n o.dst := by
      intro t ht; rw [ht] at hd; simpa [dstOk] using hd
    split at hc
    · cases hc
    · rename_i op hop
      split at hc
      · cases hc; exact ⟨hop, rfl, hok⟩
      · split at hc
        · cases hc; exact ⟨hop, rfl, hok⟩
        · cases hc
  · cases hc

theorem put_self_defers (a : Act) (d : Option Tmp) (x : Value) : ({ a with defers := a.defers } : Act).put d x = a.put d x := rfl

theorem allL_mem {α β : Type} {f : α → Option (List β)} : ∀ {l : List α} {outs : List β}, allL f l = some outs → ∀ x ∈ l, ∃ os, f x = some os ∧ ∀ o ∈ os, o ∈ outs
  | [], outs, h, x, hx => by cases hx
  | a :: l, outs, h, x, hx => by
    unfold allL at h
    split at h
    · cases h
    · rename_i os hos
      split at h
      · cases h
        rcases List.mem_cons.1 hx with rfl | hx
        · exact ⟨_, hos, fun o ho => ho⟩
        · cases hx
      · rename_i y l'
        split at h
        · rename_i q hq
          cases h
          rcases List.mem_cons.1 hx with rfl | hx
          · exact ⟨_, hos, fun o ho => List.mem_append_left _ ho⟩
          · obtain ⟨os', h1, h2⟩ := allL_mem hq x hx
            exact ⟨os', h1, fun o ho => List.mem_append_right _ (h2 o ho)⟩
        · cases h

theorem allO_spec {α β : Type} {r : Option (List α)} {f : α → Option (List β)} {outs : List β} (h : allO r f = some outs) : ∃ l, r = some l ∧ ∀ x ∈ l, ∃ os, f x = some os ∧ ∀ o ∈ os, o ∈ outs := by
  cases r with
  | none => cases h
  | some l => exact ⟨l, rfl, allL_mem h⟩

theorem next_sound {ro : Option Nat} {o : Oper} {x : Opd} {ds : Dfs} {outs : List (V × St)} {ops : Array Oper} (hc : compOp P ops o = some (.nextM x)) (hv : nextN (x.eval tm) σ = some outs) (hGP : P.globals.size ≤ G)
    (hT : TR φ tm a x.tmps) (hD : DR P φ ds a.defers) (hR : Rel G B w0 φ σ w) {next : Act → World → Prop} {Q : Exit → Act → World → Prop}
    (k : ∀ q ∈ outs, ∀ φ' x w' dfs, φ.le φ' → Rel G B w0 φ' q.2 w' → VR φ' q.1 x → DR P φ' ds dfs → next (({ a with defers := dfs } : Act).put o.dst x) w') : o.wpIn (fw ro) 0 P a w next Q := by
  have hG : GR P φ := fun g hg => (hR.glob g (by omega)).2
  obtain ⟨dst, op', type, pos, after, guard⟩ := o
  have hcomp : ∃ y, op' = .next y false ∧ opd P y = some x := by
    replace hc := compOp_spec hc
    rcases hc with hc | hc
    · exact (compOp0_notX rfl hc).elim
    · rcases hc with hc | hc | hc | hc
      · unfold compM at hc
        repeat' (split at hc)
        all_goals (cases hc; done)
      · unfold compD at hc
        repeat' (split at hc)
        all_goals (cases hc; done)
      · unfold compC at hc
        repeat' (split at hc)
        all_goals (cases hc; done)
      unfold compX at hc
      split at hc
      · split at hc <;> cases hc
      · split at hc <;> cases hc
      · rename_i z heq
        simp only at heq
        subst heq
        split at hc
        · rename_i u hu; cases hc; exact ⟨z, rfl, hu⟩
        · cases hc
      all_goals (repeat' (split at hc))
      all_goals (cases hc; done)
  obtain ⟨y, rfl, hy⟩ := hcomp
  have hnd : ro = none ∨ ∀ c, (Oper.mk dst (.next y false) type pos after guard).op ≠ .defer c := .inr (by simp)
  have r1 := opd_rel (tm := tm) (a := a) hG hy hT
  unfold nextN at hv
  split at hv
  · rename_i r e0
    rw [e0] at r1
    obtain ⟨b, n, hb, hy'⟩ := r1
    split at hv
    · rename_i since seen last ho
      cases hv
      obtain ⟨hB, s', e', l', hh⟩ := hR.obj r _ b n ho hb
      have hrun : (Instr.next (.pointer (some ⟨b, 0, none⟩)) false type).run P w = .ok (.tuple #[.bool false]) w := by
        simp [Instr.next, getObj, Sem.run_bind, Sem.run, hh, Result.andThen]
      refine Oper.wpI_value hnd (x := .tuple #[.bool false]) (w' := w) (by simp [execOp, hy', hrun]) (k _ (List.mem_singleton.2 rfl) φ _ w a.defers (Phi.le.refl _) hR ⟨_, rfl, LR.cons rfl LR.nil⟩ hD)
    · rename_i m since seen last ho
      obtain ⟨hB, rb, kk, e', hm, hh, hs⟩ := hR.obj r _ b n ho hb
      split at hv
      · rename_i es bs ck hmo
        obtain ⟨hBm, M, hM, hER, hbs⟩ := hR.mapObj hmo hm
        unfold iterLeft at hv
        by_cases hcond : since ≤ last ∧ bs.all (fun b => decide (b < since)) = true
        · rw [if_pos hcond] at hv
          have hold : ∀ x ∈ M.toList, x.born < since := by
            intro x hx
            have := List.all_eq_true.1 hcond.2 x.born (by rw [← hbs]; exact List.mem_map_of_mem hx)
            simpa using this
          have hset : ∀ (w1 : World) (e : MapEntry) , (w1 = w ∨ w1 = w.drew) → Rel G B w0 φ { σ with objs := σ.objs.set r (.iter (some m) since (seen ++ [e.born]) ck) } (ChangeMaps.setBlock w1 b (.mapIter (some rb) since (e'.push e.born) ck)) := by
            intro w1 e hw1
            have hR1 : Rel G B w0 φ σ w1 := by rcases hw1 with rfl | rfl; exact hR; exact hR.drew
            exact hR1.setObj ho rfl rfl hb hB rfl (fun hs' => ⟨hB, rb, kk, _, hm, hs', by simp [hs]⟩)
          have hidx : ∀ e ∈ (leftOf M e').toList, ∃ i, M.toList[i]? = some e ∧ i ∈ (List.range bs.length).filter fun i => match bs[i]? with | some b => !seen.contains b | none => false := by
            intro e he
            unfold leftOf at he
            simp only [Array.toList_filter, List.mem_filter] at he
            obtain ⟨hmem, hns⟩ := he
            obtain ⟨i, hi, hie⟩ := List.getElem_of_mem hmem
            refine ⟨i, by rw [List.getElem?_eq_getElem hi, hie], ?_⟩
            have hbi : bs[i]? = some e.born := by rw [← hbs, List.getElem?_map, List.getElem?_eq_getElem hi, hie]; rfl
            have hlt : i < bs.length := by
              rcases Nat.lt_or_ge i bs.length with q | q
              · exact q
              · rw [List.getElem?_eq_none q] at hbi; cases hbi
            rw [List.mem_filter]
            refine ⟨List.mem_range.2 hlt, ?_⟩
            simp only [hbi]
            rw [← hs]; simpa using hns
          generalize hl : ((List.range bs.length).filter fun i => match bs[i]? with | some b => !seen.contains b | none => false) = l at hv hidx
          rcases run_next_at (P := P) w type b rb since last e' M ck hh hM hold hcond.1 with ⟨h0, hrun⟩ | ⟨e, he, w1, hw1, hrun⟩
          · have hl0 : l = [] := by
              cases l with
              | nil => rfl
              | cons i l' =>
                exfalso
                have hi : i ∈ ((List.range bs.length).filter fun i => match bs[i]? with | some b => !seen.contains b | none => false) := by rw [hl]; exact List.mem_cons_self
                rw [List.mem_filter] at hi
                obtain ⟨_, hi⟩ := hi
                cases hbi : bs[i]? with
                | none => rw [hbi] at hi; cases hi
                | some bb =>
                  rw [hbi] at hi
                  rw [← hbs, List.getElem?_map] at hbi
                  cases hMi : M.toList[i]? with
                  | none => rw [hMi] at hbi; cases hbi
                  | some ee =>
                    rw [hMi] at hbi; simp at hbi; subst hbi
                    have : ee ∈ (leftOf M e').toList := by
                      unfold leftOf
                      simp only [Array.toList_filter, List.mem_filter]
                      refine ⟨List.mem_of_getElem? hMi, ?_⟩
                      rw [← hs] at hi; simpa using hi
                    have hsz : 0 < (leftOf M e').toList.length := List.length_pos_of_mem this
                    simp at hsz; omega
            subst hl0
            cases hv
            exact Oper.wpI_value hnd (x := .tuple #[.bool false]) (w' := w) (by simp [execOp, hy', hrun]) (k _ (List.mem_singleton.2 rfl) φ _ w a.defers (Phi.le.refl _) hR ⟨_, rfl, LR.cons rfl LR.nil⟩ hD)
          · obtain ⟨i, hi1, hi2⟩ := hidx e he
            have hne : l ≠ [] := by rintro rfl; cases hi2
            have hv' : allL (fun i => match es[i]?, bs[i]? with
              | some (k, v), some b => some [(V.tuple [.bool true, k, v], { σ with objs := σ.objs.set r (.iter (some m) since (seen ++ [b]) ck) })]
              | _, _ => none) l = some outs := by
              cases l with
              | nil => exact (hne rfl).elim
              | cons => exact hv
            obtain ⟨os, hos, hsub⟩ := allL_mem hv' i hi2
            have hbi : bs[i]? = some e.born := by rw [← hbs, List.getElem?_map, hi1]; rfl
            have hesi : ∃ k v, es[i]? = some (k, v) ∧ VR φ k e.key ∧ VR φ v e.val := by
              have hlen := hER.1
              have hilt : i < M.toList.length := by
                rcases Nat.lt_or_ge i M.toList.length with q | q
                · exact q
                · rw [List.getElem?_eq_none q] at hi1; cases hi1
              have hie : i < es.length := by omega
              obtain ⟨e2, he2, p1, p2⟩ := hER.2 i es[i].1 es[i].2 (by simp [hie])
              rw [hi1] at he2; cases he2
              exact ⟨_, _, by simp [hie], p1, p2⟩
            obtain ⟨kk', vv', hes, hk1, hk2⟩ := hesi
            rw [hes, hbi] at hos
            cases hos
            exact Oper.wpI_value hnd (x := .tuple #[.bool true, e.key, e.val]) (by simp [execOp, hy', hrun])
              (k _ (hsub _ (List.mem_singleton.2 rfl)) φ _ _ a.defers (Phi.le.refl _) (hset w1 e hw1) ⟨_, rfl, LR.cons rfl (LR.cons hk1 (LR.cons hk2 LR.nil))⟩ hD)
        · rw [if_neg hcond] at hv; cases hv
      · cases hv
    · cases hv
  · cases hv

theorem evalN_sound {call : CallN} (hcall : CallSound P G call) {ro : Option Nat} {o : Oper} {op : AOp} {ds : Dfs} {outs : List (V × Dfs × St)} {ops : Array Oper} (hc : compOp P ops o = some op) (hv : evalN call op tm ds σ = some outs) (hGP : P.globals.size ≤ G)
    (hT : TR φ tm a op.tmps) (hD : DR P φ ds a.defers) (hP : w0.P = P) (hnd : ro = none ∨ ∀ c, o.op ≠ .defer c) (hR : Rel G B w0 φ σ w) {next : Act → World → Prop} {Q : Exit → Act → World → Prop}
    (k : ∀ q ∈ outs, ∀ φ' x w' dfs, φ.le φ' → Rel G B w0 φ' q.2.2 w' → VR φ' q.1 x → DR P φ' q.2.1 dfs → next (({ a with defers := dfs } : Act).put o.dst x) w') : o.wpIn (fw ro) 0 P a w next Q := by
  have hG : GR P φ := fun g hg => (hR.glob g (by omega)).2
  have fin : ∀ {l : List (V × St)}, outs = l.map (fun r => (r.1, ds, r.2)) → ∀ e w'', CPosts G B w0 φ l e w'' → ∃ x, e = .returned x ∧ next (a.put o.dst x) w'' := by
    rintro l rfl e w'' ⟨q, hq, φ', x, rfl, h1, h2, h3⟩
    exact ⟨x, rfl, k (q.1, ds, q.2) (List.mem_map.2 ⟨q, hq, rfl⟩) φ' x w'' a.defers h1 h2 h3 (hD.mono h1)⟩
  unfold evalN at hv
  split at hv
  · rename_i g xs
    split at hv
    · rename_i l hl
      obtain ⟨dst, op', type, pos, after, guard⟩ := o
      obtain ⟨args, ats, rfl, hxs⟩ := comp_call hc
      have hr := opds_rel (tm := tm) (a := a) hG hxs hT
      have hr' : LR φ (xs.map (·.eval tm)) (args.map a.eval).toList := by simpa using hr
      have fin := fin (l := l) (by simpa using hv.symm)
      rcases hcall.plain g _ σ _ hl B w0 φ w _ hP hR hr' with ⟨he, hcs⟩ | ⟨x, w', he, hp⟩
      · refine Oper.wpI_enter hnd (g := g) (args := args.map a.eval) (w' := w) ?_ hcs fin
        simp [execOp, resolve, Deferred.ofValue, Act.eval, invoke, he]
      · obtain ⟨x', hx', hk⟩ := fin _ _ hp
        cases hx'
        refine Oper.wpI_value hnd (x := x) (w' := w') ?_ hk
        simp [execOp, resolve, Deferred.ofValue, Act.eval, invoke, he]
    · cases hv
  · rename_i g xs
    split at hv
    · rename_i f first cap hf
      split at hv
      · rename_i l hl
        obtain ⟨dst, op', type, pos, after, guard⟩ := o
        obtain ⟨y, args, ats, rfl, hy, hxs⟩ := comp_callv hc
        have hr0 := opd_rel (tm := tm) (a := a) hG hy hT.left
        have hr := opds_rel (tm := tm) (a := a) hG hxs hT.right
        rw [hf] at hr0
        obtain ⟨F, C, hF, hrF, hrC⟩ := hr0
        have hr' : LR φ (first ++ xs.map (·.eval tm) ++ cap) (F ++ args.map a.eval ++ C).toList := by
          simp only [Array.toList_append, Array.toList_map]
          exact LR.append (LR.append hrF hr) hrC
        have fin := fin (l := l) (by simpa using hv.symm)
        rcases hcall.plain f _ σ _ hl B w0 φ w _ hP hR hr' with ⟨he, hcs⟩ | ⟨x, w', he, hp⟩
        · refine Oper.wpI_enter hnd (g := f) (args := F ++ args.map a.eval ++ C) (w' := w) ?_ hcs fin
          simp only [execOp, resolve, Deferred.ofValue, hF, invoke, Sem.run_bind, Sem.run_pure, Result.andThen_ok]
          exact he
        · obtain ⟨x', hx', hk⟩ := fin _ _ hp
          cases hx'
          refine Oper.wpI_value hnd (x := x) (w' := w') ?_ hk
          simp only [execOp, resolve, Deferred.ofValue, hF, invoke, Sem.run_bind, Sem.run_pure, Result.andThen_ok]
          exact he
      · cases hv
    · rename_i l hf
      split at hv
      · rename_i ol hl
        obtain ⟨dst, op', type, pos, after, guard⟩ := o
        obtain ⟨y, args, ats, rfl, hy, hxs⟩ := comp_callv hc
        have hr0 := opd_rel (tm := tm) (a := a) hG hy hT.left
        have hr := opds_rel (tm := tm) (a := a) hG hxs hT.right
        rw [hf] at hr0
        obtain ⟨b, n, hb, hF⟩ := hr0
        have hr' : LR φ (xs.map (·.eval tm)) (args.map a.eval).toList := by simpa using hr
        obtain ⟨f, tmps, asg, body, hy2, hrd⟩ := hcall.round l _ σ _ hl B w0 φ w _ b n hP hb hR hr'
        have fin := fin (l := ol) (by simpa using hv.symm)
        refine Oper.wpI_round hnd (l := b) (f := f) (tmps := tmps) (asg := asg) (body := body) (w' := w) ?_ hrd fin
        simp [execOp, resolve, Deferred.ofValue, hF, invoke, hy2]
      · cases hv
    · cases hv
  · rename_i tbl g xs
    split at hv
    · rename_i t v1 hf
      split at hv
      · rename_i f hft
        split at hv
        · rename_i l hl
          obtain ⟨dst, op', type, pos, after, guard⟩ := o
          obtain ⟨r, name, args, ats, rfl, hy, hxs, rfl⟩ := comp_invoke hc
          have hr0 := opd_rel (tm := tm) (a := a) hG hy hT.left
          have hr := opds_rel (tm := tm) (a := a) hG hxs hT.right
          rw [hf] at hr0
          obtain ⟨X, hX, hrX⟩ := hr0
          have hr' : LR φ (v1 :: xs.map (·.eval tm)) (#[X] ++ args.map a.eval).toList := by
            simp only [Array.toList_append, Array.toList_map]
            exact LR.cons hrX hr
          have hm := method_run (P := P) hft X w
          have hrun := invoke_run (P := P) (w := w) (a := a) (dst := dst) (type := type) (pos := pos) (after := after) (guard := guard) (ats := ats) (args := args) hX hm
          have fin := fin (l := l) (by simpa using hv.symm)
          rcases hcall.plain f _ σ _ hl B w0 φ w _ hP hR hr' with ⟨he, hcs⟩ | ⟨x, w', he, hp⟩
          · exact Oper.wpI_enter hnd (g := f) (args := #[X] ++ args.map a.eval) (w' := w) (by rw [hrun]; exact he) hcs fin
          · obtain ⟨x', hx', hk⟩ := fin _ _ hp
            cases hx'
            exact Oper.wpI_value hnd (x := x) (w' := w') (by rw [hrun]; exact he) hk
        · cases hv
      · cases hv
    · cases hv
  · rename_i x
    split at hv
    · rename_i l hl
      cases hv
      exact next_sound hc hl hGP hT hD hR (fun q hq φ' y w' dfs h1 h2 h3 h4 => k (q.1, ds, q.2) (List.mem_map.2 ⟨q, hq, rfl⟩) φ' y w' dfs h1 h2 h3 h4)
    · cases hv
  · split at hv
    · rename_i r hr
      cases hv
      obtain ⟨v, ds', σ'⟩ := r
      exact evalOp_sound hcall.det hc hr hGP hT hD hP hnd hR (fun φ' x w' dfs h1 h2 h3 h4 => k (v, ds', σ') (List.mem_singleton.2 rfl) φ' x w' dfs h1 h2 h3 h4)
    · cases hv

theorem runOps_sound {call : CallN} (hcall : CallSound P G call) (hGP : P.globals.size ≤ G) (hP : w0.P = P) {ro : Option Nat} {n : Nat} {ops : Array Oper} : ∀ (l : List Oper) (al : List AOper), compOpers P n ops l = some al → (ro = none ∨ ∀ o ∈ l, ∀ c, o.op ≠ .defer c) →
    ∀ {fr : Fr} {σ : St} {outs : List (Fr × St)}, runOps call al fr σ = some outs →
    ∀ {φ : Phi} {a : Act} {w : World}, Rel G B w0 φ σ w → FR P n φ fr a → ∀ {Q : Exit → Act → World → Prop}, (∀ q ∈ outs, ∀ φ' a' w', φ.le φ' → Rel G B w0 φ' q.2 w' → FR P n φ' q.1 a' → Q .normal a' w') → wpListIn (fw ro) 0 P ops Q l a w
  | [], al, hc, hnd, fr, σ, outs, hr, φ, a, w, hR, hF, Q, hQ => by
    simp [compOpers] at hc; subst hc
    simp [runOps] at hr; subst hr
    exact hQ (fr, σ) (List.mem_singleton.2 rfl) φ a w (Phi.le.refl _) hR hF
  | o :: r, al, hc, hnd, fr, σ, outs, hr, φ, a, w, hR, hF, Q, hQ => by
    simp only [compOpers] at hc
    split at hc
    · rename_i ao al' ho hr'
      simp at hc; subst hc
      obtain ⟨h1, h2, h3⟩ := compOper_spec ho
      have hw := wanted_rel (tm := fr.tmps) (a := a) ho (fun t _ => hF.ts t)
      have hnd1 : ro = none ∨ ∀ c, o.op ≠ .defer c := hnd.imp id (fun h => h o List.mem_cons_self)
      have hnd2 : ro = none ∨ ∀ o ∈ r, ∀ c, o.op ≠ .defer c := hnd.imp id (fun h o ho => h o (List.mem_cons_of_mem _ ho))
      simp only [runOps] at hr
      unfold wpListIn
      rw [hw]
      split at hr
      · rename_i hwant
        rw [if_pos hwant]
        obtain ⟨l, hl, hall⟩ := allO_spec hr
        refine evalN_sound hcall h1 hl hGP (hF.tr _) hF.ds hP hnd1 hR ?_
        intro q hq φ1 x w1 dfs hle hR1 hvx hds
        have hF1 := (hF.mono hle).put (d := o.dst) h3 hvx hds
        obtain ⟨os, hos, hsub⟩ := hall q hq
        rw [h2] at hos
        exact runOps_sound hcall hGP hP r al' hr' hnd2 hos hR1 hF1 (fun p hp φ' a' w' hle' => hQ p (hsub p hp) φ' a' w' (hle.trans hle'))
      · rename_i hwant
        rw [if_neg hwant]
        have hF1 := hF.put (d := o.dst) h3 VR.undef hF.ds
        rw [h2] at hr
        exact ⟨fun _ _ => trivial, runOps_sound hcall hGP hP r al' hr' hnd2 hr hR hF1 hQ⟩
    · cases hc
def toExit : Ex → Exit
  | .normal => .normal
  | .exit id => .exit id
  | .goto l => .goto l
  | .ret => .ret
structure OkB (rd : Bool) (b : Frame) (cs : List Frame) : Prop where
  quiet : rd = false → ∀ fr : Frame, fr.kind = b.kind → tryRecover fr cs = none
  plain : rd = false → b.roundOf = none
abbrev ArrR (P : Program) (m : Machine) (b : Frame) (k : List Item) (cs : List Frame) (e : Exit) (a : Act) (w : World) : Prop := ArrivesIn (Machine.fenced P (fw b.roundOf)) P m b k cs e a w
abbrev StepsR (P : Program) (b : Frame) (m m' : Machine) : Prop := StepsIn (Machine.fenced P (fw b.roundOf)) P m m'

theorem fenced_fw (P : Program) (ro : Option Nat) (m : Machine) : m.fenced P (fw ro) := fenced_wide P m
theorem stepsR_of {b : Frame} {m m' : Machine} (h : Steps P m m') : StepsR P b m m' := (stepsIn_wide (P := P)).2 h
theorem StepsR.steps' {b : Frame} {m m' : Machine} (h : StepsR P b m m') : Steps P m m' := StepsIn.steps h
theorem stepsR_one {b : Frame} {m m' : Machine} (h : step P m = .next m') : StepsR P b m m' := StepsIn.one (fenced_fw P _ _) h
def Come (P : Program) (G B : Nat) (w0 : Base) (n : Nat) (φ : Phi) (ex : Ex) (fr' : Fr) (σ' : St) (m : Machine) (b : Frame) (k : List Item) (cs : List Frame) : Prop :=
  ∃ a' w' φ', φ.le φ' ∧ Rel G B w0 φ' σ' w' ∧ FR P n φ' fr' a' ∧ ArrR P m b k cs (toExit ex) a' w'
def Comes1 (P : Program) (G B : Nat) (w0 : Base) (n : Nat) (φ : Phi) (outs : List (Ex × Fr × St)) (m : Machine) (b : Frame) (k : List Item) (cs : List Frame) : Prop :=
  ∃ o ∈ outs, Come P G B w0 n φ o.1 o.2.1 o.2.2 m b k cs

theorem Come.of_steps {n : Nat} {ex : Ex} {fr' : Fr} {m m1 : Machine} {b : Frame} {k : List Item} {cs : List Frame} (h : StepsR P b m m1) (c : Come P G B w0 n φ ex fr' σ' m1 b k cs) : Come P G B w0 n φ ex fr' σ' m b k cs := by
  obtain ⟨a', w', φ', h1, h2, h3, h4⟩ := c
  exact ⟨a', w', φ', h1, h2, h3, ArrivesIn.of_steps h h4⟩

theorem Come.mono {n : Nat} {ψ : Phi} {ex : Ex} {fr' : Fr} {m : Machine} {b : Frame} {k : List Item} {cs : List Frame} (h : φ.le ψ) (c : Come P G B w0 n ψ ex fr' σ' m b k cs) : Come P G B w0 n φ ex fr' σ' m b k cs := by
  obtain ⟨a', w', φ', h1, h2⟩ := c
  exact ⟨a', w', φ', h.trans h1, h2⟩

theorem Come.pass {n : Nat} {ex : Ex} {fr' : Fr} {m : Machine} {b : Frame} {x : Item} {k : List Item} {cs : List Frame} (hx : x.plain = true) (hne : ex ≠ .normal) (c : Come P G B w0 n φ ex fr' σ' m b (x :: k) cs) : Come P G B w0 n φ ex fr' σ' m b k cs := by
  obtain ⟨a', w', φ', h1, h2, h3, h4⟩ := c
  exact ⟨a', w', φ', h1, h2, h3, ArrivesIn.pass hx (fun _ _ => .inl (by cases ex <;> simp_all [toExit])) h4⟩

theorem Comes1.of_steps {n : Nat} {outs : List (Ex × Fr × St)} {m m1 : Machine} {b : Frame} {k : List Item} {cs : List Frame} (h : StepsR P b m m1) (c : Comes1 P G B w0 n φ outs m1 b k cs) : Comes1 P G B w0 n φ outs m b k cs :=
  let ⟨o, ho, hc⟩ := c; ⟨o, ho, hc.of_steps h⟩
theorem Comes1.mono {n : Nat} {ψ : Phi} {outs : List (Ex × Fr × St)} {m : Machine} {b : Frame} {k : List Item} {cs : List Frame} (h : φ.le ψ) (c : Comes1 P G B w0 n ψ outs m b k cs) : Comes1 P G B w0 n φ outs m b k cs :=
  let ⟨o, ho, hc⟩ := c; ⟨o, ho, hc.mono h⟩
theorem Comes1.sub {n : Nat} {outs outs' : List (Ex × Fr × St)} {m : Machine} {b : Frame} {k : List Item} {cs : List Frame} (h : ∀ o ∈ outs, o ∈ outs') (c : Comes1 P G B w0 n φ outs m b k cs) : Comes1 P G B w0 n φ outs' m b k cs :=
  let ⟨o, ho, hc⟩ := c; ⟨o, h o ho, hc⟩

theorem come_of_wp {n : Nat} {c : Code} {outs : List (Fr × St)} {b : Frame} (h : c.wpIn (fw b.roundOf) 0 P (fun e a' w' => e = .normal ∧ ∃ q ∈ outs, ∃ φ', φ.le φ' ∧ Rel G B w0 φ' q.2 w' ∧ FR P n φ' q.1 a') a w) (k : List Item) (cs : List Frame) :
    Comes1 P G B w0 n φ (outs.map fun r => (.normal, r.1, r.2)) (lone (b.atR a (.code c :: k)) cs w) b k cs := by
  obtain ⟨e, a', w', ⟨rfl, q, hq, φ', h1, h2, h3⟩, h4⟩ := h b k cs rfl trivial (room_wide _)
  exact ⟨(.normal, q.1, q.2), List.mem_map.2 ⟨q, hq, rfl⟩, a', w', φ', h1, h2, h3, h4⟩

theorem findLabel_comp (rd : Bool) (n : Nat) : ∀ (c : Code) (l : Nat), findLabel (comp P rd n c) l = (Go.findLabel c l).map (comp P rd n)
  | .seq x y, l => by
    simp only [comp, findLabel, Go.findLabel, findLabel_comp rd n x l, findLabel_comp rd n y l]
    cases Go.findLabel x l <;> simp [comp]
  | .label l', l => by simp only [comp, findLabel, Go.findLabel]; split <;> simp [comp]
  | .region id ops d, l => by
    simp only [comp, Go.findLabel]
    repeat' (split)
    all_goals simp [findLabel]
  | .cond c x y, l => by simp only [comp, Go.findLabel]; split <;> simp [findLabel]
  | .rangeFunc .., l => by
    simp only [comp, Go.findLabel]
    repeat' (split)
    all_goals simp [findLabel]
  | .skip, l | .block _ _, l | .loop _, l | .exit _, l | .scope _, l | .goto _, l | .ret, l | .refuse _, l => by simp [comp, findLabel, Go.findLabel]
end AM
namespace AM
open Go Go.RowKit
set_option linter.unusedVariables false
set_option linter.unusedSimpArgs false
variable {P : Program} {φ : Phi} {tm : T V} {a : Act} {w : World} {w0 : Base} {σ σ' : St} {G B : Nat} {call : CallN} {L : List LMemo}

def DrawSound (P : Program) (G : Nat) (call : CallT) : Prop :=
  ∀ n id ops dl, compDraw P n ops = some dl → ∀ fr fr' σ σ', runDraw call dl fr σ = some (fr', σ') → ∀ (ro : Option Nat) B w0 φ a w, (ro = none ∨ ∀ o ∈ ops.toList, ∀ c, o.op ≠ .defer c) → w0.P = P → Rel G B w0 φ σ w → FR P n φ fr a →
    (Code.region id ops true).wpIn (fw ro) 0 P (fun e a' w' => e = .normal ∧ ∃ φ', φ.le φ' ∧ Rel G B w0 φ' σ' w' ∧ FR P n φ' fr' a') a w

theorem step_recover {ops : Array Oper} {o : Oper} {rest : List Nat} {b : Frame} {k : List Item} {cs : List Frame} (ho : ops[0]? = some o) (hr : isRecover o = true) (hg : o.guard.isNone = true) (hb : OkB false b cs) :
    step P (lone (b.at a (.inRegion ops (0 :: rest) :: k)) cs w) = .next (lone (b.at (a.put o.dst .nilIface) (.inRegion ops rest :: k)) cs w) := by
  have hw : Region.wanted o (yielded ops a.tmps) = true := by
    have : o.guard = none := by cases h : o.guard <;> simp_all
    simp [Region.wanted, this]
  have hrun : (execOp a.eval o).run P w = .ok .recover w := by
    unfold isRecover at hr
    split at hr
    · rename_i c hc
      split at hr
      · rename_i hcal
        simp [execOp, hc, resolve, hcal, invoke, builtin]
      · cases hr
    · cases hr
  have hgo := stepG_op (P := P) (b := b) (a := a) (k := k) (cs := cs) (w := w) (rest := rest) ho hw
  have htr : tryRecover (b.at a (.inRegion ops (0 :: rest) :: k)) cs = none := hb.quiet rfl _ rfl
  have hfin : (b.at a (.inRegion ops (0 :: rest) :: k)).finish .nilIface = b.at (a.put o.dst .nilIface) (.inRegion ops rest :: k) := by
    rw [Frame.finish_at, ho]; rfl
  refine step_lone_go ?_
  rw [hgo, ← hfin]
  simp only [Frame.at] at htr ⊢
  simp [stepG.apply, hrun, htr]

theorem regionR_sound (hcall : CallSound P G call) (hGP : P.globals.size ≤ G) (hP : w0.P = P) {n : Nat} {id : Nat} {ops : Array Oper} {o : Oper} {r : List Oper} {al : List AOper} (hops : ops.toList = o :: r) (hr : isRecover o = true) (hg : o.guard.isNone = true)
    (hd : dstOk n o.dst = true) (hc : compOpers P n ops r = some al) {fr : Fr} {outs : List (Fr × St)} (hrun : runOps call al ⟨putD fr.tmps o.dst .nilIface, fr.defers⟩ σ = some outs) (hR : Rel G B w0 φ σ w) (hF : FR P n φ fr a)
    {b : Frame} {k : List Item} {cs : List Frame} (hb : OkB false b cs) : Comes1 P G B w0 n φ (outs.map fun r => (.normal, r.1, r.2)) (lone (b.atR a (.code (.region id ops false) :: k)) cs w) b k cs := by
  have hsz : ops.size = r.length + 1 := by have := congrArg List.length hops; simpa using this
  have ho : ops[0]? = some o := by have := congrArg (·[0]?) hops; simpa using this
  have hok : okDst n o.dst := by intro t ht; rw [ht] at hd; simpa [dstOk] using hd
  have hF1 := hF.put (d := o.dst) hok (v := .nilIface) (x := .nilIface) rfl hF.ds
  have hbr := hb.plain rfl
  have hwp := runOps_sound (ro := b.roundOf) hcall hGP hP (ops := ops) r al hc (.inl hbr) hrun hR hF1 (Q := fun e a' w' => e = .normal ∧ ∃ q ∈ outs, ∃ φ', φ.le φ' ∧ Rel G B w0 φ' q.2 w' ∧ FR P n φ' q.1 a') (fun q hq φ' a' w' h1 h2 h3 => ⟨rfl, q, hq, φ', h1, h2, h3⟩)
  have heq := wpOpsIn_eq_wpListIn (F := fw b.roundOf) (n := 0) (P := P) (ops := ops) (Q := fun e a' w' => e = .normal ∧ ∃ q ∈ outs, ∃ φ', φ.le φ' ∧ Rel G B w0 φ' q.2 w' ∧ FR P n φ' q.1 a') r 1 (fun j => by
    have := congrArg (·[j + 1]?) hops
    simp at this
    rw [Nat.add_comm 1 j, this])
  rw [← heq] at hwp
  obtain ⟨e, a', w', ⟨rfl, q, hq, φ', h1, h2, h3⟩, h4⟩ := wp_opsIn (P := P) _ _ _ hwp b k cs rfl trivial (room_wide _)
  refine ⟨(.normal, q.1, q.2), List.mem_map.2 ⟨q, hq, rfl⟩, a', w', φ', h1, h2, h3, ?_⟩
  refine ArrivesIn.of_steps (stepsR_one stepR_region) ?_
  rw [List.range_eq_range', hsz, List.range'_succ]
  have hs := step_recover (P := P) (w := w) (a := a) (rest := List.range' (0 + 1) r.length) (k := k) ho hr hg hb
  rw [← Frame.atR_of_none hbr, ← Frame.atR_of_none hbr] at hs
  exact ArrivesIn.of_steps (stepsR_one hs) h4

theorem arr_inBlock {m : Machine} {b : Frame} {id : Nat} {k : List Item} {cs : List Frame} {ex : Ex} (h1 : ex ≠ .normal) (h2 : ex ≠ .exit id) (h : ArrR P m b (.inBlock id :: k) cs (toExit ex) a w) : ArrR P m b k cs (toExit ex) a w := by
  cases ex with
  | normal => exact (h1 rfl).elim
  | exit id' =>
    have : (id == id') = false := by simp; rintro rfl; exact h2 rfl
    exact ⟨fun k' hk => h.1 k' (by simp [exitTo, this, hk]), fun hr hk => h.2 hr (by simp [exitTo, this, hk])⟩
  | goto l => exact ⟨fun k' hk => h.1 k' (by simp [gotoIn, hk]), fun hr hk => h.2 hr (by simp [gotoIn, hk])⟩
  | ret => exact h

theorem arr_inScope {m : Machine} {b : Frame} {c : Code} {k : List Item} {cs : List Frame} {ex : Ex} (h1 : ex ≠ .normal) (h2 : ∀ l, ex ≠ .goto l) (h : ArrR P m b (.inScope c :: k) cs (toExit ex) a w) : ArrR P m b k cs (toExit ex) a w := by
  cases ex with
  | normal => exact (h1 rfl).elim
  | exit id => exact ⟨fun k' hk => h.1 k' (by simp [exitTo, hk]), fun hr hk => h.2 hr (by simp [exitTo, hk])⟩
  | goto l => exact (h2 l rfl).elim
  | ret => exact h
theorem arr_jump {b : Frame} {m : Machine} {k : List Item} {cs : List Frame} {ex : Ex} {rd : Bool} (hb : OkB rd b cs) (h : StepsR P b m (lone (b.atR a (((jumpC (some ex)).map Item.code).toList ++ k)) cs w)) : ArrR P m b k cs (toExit ex) a w := by
  cases ex with
  | normal => exact StepsIn.trans h (stepsR_one stepR_skip)
  | exit id => exact ⟨fun k' hk => StepsIn.trans h (stepsR_one (stepR_exit hk)), fun _ hk => ⟨k, hk, h⟩⟩
  | goto l => exact ⟨fun k' hk => StepsIn.trans h (stepsR_one (stepR_goto hk)), fun _ hk => ⟨k, hk, h⟩⟩
  | ret => exact ⟨fun hr => ⟨_, StepsIn.trans h (stepsR_one (stepR_ret hr))⟩, fun _ => ⟨k, h⟩⟩

theorem scope_sound {rd : Bool} {n : Nat} {c : Code} {fuel : Nat}
    (ih : ∀ (c' : Code) {fr : Fr} {σ : St} {outs : List (Ex × Fr × St)}, exec call L fuel (comp P rd n c') fr σ = some outs → ∀ {φ : Phi} {a : Act} {w : World}, Rel G B w0 φ σ w → FR P n φ fr a →
      ∀ {b : Frame} {k : List Item} {cs : List Frame}, OkB rd b cs → Comes1 P G B w0 n φ outs (lone (b.atR a (.code c' :: k)) cs w) b k cs) :
    ∀ (m l : Nat) {fr : Fr} {σ : St} {outs : List (Ex × Fr × St)}, exec.scopeLoop (exec call L fuel) (comp P rd n c) m l fr σ = some outs → ∀ {φ : Phi} {a : Act} {w : World}, Rel G B w0 φ σ w → FR P n φ fr a →
      ∀ {b : Frame} {k : List Item} {cs : List Frame}, OkB rd b cs → ∀ M : Machine, ArrR P M b (.inScope c :: k) cs (.goto l) a w →
        Comes1 P G B w0 n φ outs M b k cs := by
  intro m
  induction m with
  | zero => intro l fr σ outs h; simp [exec.scopeLoop] at h
  | succ m ihm =>
    intro l fr σ outs h φ a w hR hF b k cs hb M hM
    simp only [exec.scopeLoop, findLabel_comp] at h
    cases hfl : Go.findLabel c l with
    | none =>
      rw [hfl] at h
      simp at h; subst h
      refine ⟨_, List.mem_singleton.2 rfl, a, w, φ, Phi.le.refl _, hR, hF, ?_⟩
      exact ⟨fun k' hk' => hM.1 k' (by simp [gotoIn, hfl, hk']), fun hr hk => hM.2 hr (by simp [gotoIn, hfl, hk])⟩
    | some rest =>
      rw [hfl] at h
      simp only [Option.map_some] at h
      have hsteps := hM.1 (.code rest :: .inScope c :: k) (by simp [gotoIn, hfl])
      obtain ⟨ol, hol, hall⟩ := allO_spec h
      obtain ⟨o, ho, a1, w1, φ1, hle, hR1, hF1, harr⟩ := ih rest hol hR hF (b := b) (k := .inScope c :: k) hb
      obtain ⟨os, hos, hsub⟩ := hall o ho
      obtain ⟨ex1, fr1, σ1⟩ := o
      have harr := ArrivesIn.of_steps hsteps harr
      cases ex1 with
      | goto l2 => exact Comes1.mono hle ((ihm l2 hos hR1 hF1 hb M harr).sub hsub)
      | normal =>
        cases hos
        exact ⟨_, hsub _ (List.mem_singleton.2 rfl), a1, w1, φ1, hle, hR1, hF1, StepsIn.trans harr (stepsR_one (step_lone_go (by simp [stepG, stepG.exec, Frame.atR])))⟩
      | exit id =>
        cases hos
        exact ⟨_, hsub _ (List.mem_singleton.2 rfl), a1, w1, φ1, hle, hR1, hF1, arr_inScope (by simp) (by simp) harr⟩
      | ret =>
        cases hos
        exact ⟨_, hsub _ (List.mem_singleton.2 rfl), a1, w1, φ1, hle, hR1, hF1, arr_inScope (ex := .ret) (by simp) (by simp) harr⟩

theorem sameT_eq {α : Type} {f : α → α → Bool} (hf : ∀ a b, f a b = true → a = b) : ∀ (x y : T α), sameT f x y = true → x = y
  | .nil, y, h => by cases y <;> simp_all [sameT]
  | .node v l r, y, h => by
    cases y with
    | nil => simp [sameT] at h
    | node v' l' r' =>
      simp only [sameT, Bool.and_eq_true] at h
      obtain ⟨⟨h1, h2⟩, h3⟩ := h
      rw [sameT_eq hf l l' h2, sameT_eq hf r r' h3]
      cases v <;> cases v' <;> simp_all
      exact hf _ _ h1

theorem sameE_eq : ∀ (x y : List (V × V)), sameE x y = true → x = y
  | [], y, h => by cases y <;> simp_all [sameE]
  | (a, b) :: r, y, h => by
    cases y with
    | nil => simp [sameE] at h
    | cons c s =>
      obtain ⟨c, d⟩ := c
      simp only [sameE, Bool.and_eq_true] at h
      rw [sameV_eq a c h.1.1, sameV_eq b d h.1.2, sameE_eq r s h.2]

theorem sameN_eq : ∀ (x y : List Nat), sameN x y = true → x = y
  | [], y, h => by cases y <;> simp_all [sameN]
  | a :: r, y, h => by
    cases y with
    | nil => simp [sameN] at h
    | cons c s =>
      simp only [sameN, Bool.and_eq_true, beq_iff_eq] at h
      rw [h.1, sameN_eq r s h.2]

theorem sameO_eq (x y : Obj) (h : sameO x y = true) : x = y := by
  cases x <;> cases y <;> simp only [sameO, Bool.and_eq_true, beq_iff_eq, decide_eq_true_eq, Bool.false_eq_true] at h
  · obtain ⟨⟨⟨⟨rfl, rfl⟩, rfl⟩, h1⟩, h2⟩ := h
    rw [sameL_eq _ _ h1, sameT_eq sameV_eq _ _ h2]
  · obtain ⟨⟨h1, h2⟩, rfl⟩ := h
    rw [sameE_eq _ _ h1, sameN_eq _ _ h2]
  · obtain ⟨⟨⟨rfl, rfl⟩, h1⟩, rfl⟩ := h
    rw [sameN_eq _ _ h1]
  · obtain ⟨rfl, h1⟩ := h
    rw [sameT_eq sameV_eq _ _ h1]
  · rfl
  · obtain ⟨⟨⟨⟨⟨rfl, rfl⟩, h1⟩, h2⟩, rfl⟩, rfl⟩ := h
    rw [sameT_eq sameV_eq _ _ h1, sameN_eq _ _ h2]
  · rfl

theorem sameSt_eq (x y : St) (h : sameSt x y = true) : x = y := by
  obtain ⟨a, b, c⟩ := x; obtain ⟨a', b', c'⟩ := y
  simp only [sameSt, Bool.and_eq_true, beq_iff_eq] at h
  obtain ⟨⟨rfl, h1⟩, h2⟩ := h
  rw [sameT_eq sameO_eq _ _ h1, sameT_eq sameN_eq _ _ h2]
def LoopOk (P : Program) (G : Nat) (m : LMemo) : Prop :=
  ∀ rd n (x : Code), comp P rd n x = m.b → ∀ B w0 φ a w, w0.P = P → Rel G B w0 φ m.σ w → FR P n φ m.fr a → ∀ (b : Frame) (k : List Item) (cs : List Frame), OkB rd b cs →
    Come P G B w0 n φ m.ex m.fr' m.σ' (lone (b.atR a (.code x :: .inLoop x :: k)) cs w) b k cs
def LoopsOk (P : Program) (G : Nat) (L : List LMemo) : Prop := ∀ m ∈ L, LoopOk P G m

theorem sameDs_eq : ∀ (x y : Dfs), sameDs x y = true → x = y
  | [], y, h => by cases y <;> simp_all [sameDs]
  | .call f a :: r, y, h => by
    cases y with
    | nil => simp [sameDs] at h
    | cons c s =>
      cases c with
      | mark b => simp [sameDs] at h
      | del k a b => simp [sameDs] at h
      | call g b =>
        simp only [sameDs, Bool.and_eq_true, beq_iff_eq] at h
        rw [h.1.1, sameL_eq a b h.1.2, sameDs_eq r s h.2]
  | .mark a :: r, y, h => by
    cases y with
    | nil => simp [sameDs] at h
    | cons c s =>
      cases c with
      | call g b => simp [sameDs] at h
      | del k a b => simp [sameDs] at h
      | mark b =>
        simp only [sameDs, Bool.and_eq_true, beq_iff_eq] at h
        rw [h.1, sameDs_eq r s h.2]
  | .del k a b :: r, y, h => by
    cases y with
    | nil => simp [sameDs] at h
    | cons c s =>
      cases c with
      | call g b => simp [sameDs] at h
      | mark b => simp [sameDs] at h
      | del k' a' b' =>
        simp only [sameDs, Bool.and_eq_true, decide_eq_true_eq] at h
        obtain ⟨⟨⟨rfl, h1⟩, h2⟩, h3⟩ := h
        rw [sameV_eq _ _ h1, sameV_eq _ _ h2, sameDs_eq r s h3]
theorem sameFr_eq (x y : Fr) (h : sameFr x y = true) : x = y := by
  obtain ⟨a, b⟩ := x; obtain ⟨c, d⟩ := y
  simp only [sameFr, Bool.and_eq_true] at h
  rw [sameT_eq sameV_eq _ _ h.1, sameDs_eq _ _ h.2]
theorem loopGet_ok : ∀ {L : List LMemo} {b : AC} {fr fr' : Fr} {σ σ' : St} {ex : Ex}, LoopsOk P G L → loopGet L b fr σ = some (ex, fr', σ') → LoopOk P G ⟨b, fr, σ, ex, fr', σ'⟩
  | [], b, fr, fr', σ, σ', ex, hL, h => by simp [loopGet] at h
  | m :: r, b, fr, fr', σ, σ', ex, hL, h => by
    simp only [loopGet] at h
    split at h
    · rename_i hc
      simp only [Bool.and_eq_true, decide_eq_true_eq] at hc
      obtain ⟨_, h1, h2, h3⟩ := hc
      simp at h; obtain ⟨rfl, rfl, rfl⟩ := h
      rw [← h3, ← sameFr_eq _ _ h1, ← sameSt_eq _ _ h2]
      exact hL m (by simp)
    · exact loopGet_ok (fun m hm => hL m (by simp [hm])) h

theorem stepR_inScope' {b : Frame} {c : Code} {k : List Item} {cs : List Frame} : step P (lone (b.atR a (.inScope c :: k)) cs w) = .next (lone (b.atR a k) cs w) :=
  step_lone_go (by simp [stepG, stepG.exec, Frame.atR])
theorem stepR_scope' {b : Frame} {c : Code} {k : List Item} {cs : List Frame} : step P (lone (b.atR a (.code (.scope c) :: k)) cs w) = .next (lone (b.atR a (.code c :: .inScope c :: k)) cs w) :=
  step_lone_go (by simp [stepG, stepG.exec, Frame.atR])
theorem stepR_rangeFunc_value {b : Frame} {k : List Item} {cs : List Frame} {g : Operand} {ps : Array Tmp} {assign body : Code} {l : Nat} {mark : List Deferred} {w₁ w₁' w₂ : World} {d : Deferred} {v : Value}
    (he : (Instr.enterLoop b.fn a.tmps ps assign body b.roundOf).run P w = .ok (l, mark) w₁)
    (hres : (resolve a.eval (rangeCall g l) 0).run P w₁ = .ok d w₁') (hinv : (invoke d.target d.args).run P w₁' = .ok (.value v) w₂) :
    step P (lone (b.atR a (.code (.rangeFunc g ps assign body) :: k)) cs w) = .next (lone (b.atR { a with defers := mark ++ a.defers } (.endRangeFunc l :: k)) cs w₂) :=
  step_lone_go (by
    have hev := Frame.eval_atR b { a with defers := mark ++ a.defers } (.inRangeFunc l :: k)
    simp only [Frame.atR] at hev
    have hres' : Sem.run P (resolve ({ tmps := a.tmps, defers := mark ++ a.defers } : Act).eval { callee := .value g, args := #[.const (.func (.yield l) #[] #[])], argTypes := #[] } 0) w₁ = .ok d w₁' := hres
    simp [stepG, stepG.exec, Frame.atR, Sem.runT_eq, he, GStep.bare_after, stepG.apply, hev, Sem.run_bind, hres', hinv, Result.andThen, Frame.finish])

theorem range_sound (hcall : CallSound P G call) (hGP : P.globals.size ≤ G) (hP : w0.P = P) {n : Nat} {g : Operand} {g' : Opd} {ps : Array Tmp} {asg body : Code} (hg : opd P g = some g') (hps : ∀ t ∈ ps.toList, t < n) {fr : Fr} {gf : FuncId} {first cap : List V} (hev : g'.eval fr.tmps = .func gf first cap)
    {outs : List (Ex × Fr × St)} (h : allO (call (.fn gf) (first ++ [.yield (σ.next + 1)] ++ cap) ((σ.new .dfr).new (.loop .ready none fr.tmps ps.toList (comp P true n asg) (comp P true n body)))) (fun r => endLoopA (σ.next + 1) ⟨fr.tmps, .mark σ.next :: fr.defers⟩ r.2) = some outs)
    (hR : Rel G B w0 φ σ w) (hF : FR P n φ fr a) {b : Frame} {k : List Item} {cs : List Frame} (hb : OkB false b cs) : Comes1 P G B w0 n φ outs (lone (b.atR a (.code (.rangeFunc g ps asg body) :: k)) cs w) b k cs := by
  have hbr := hb.plain rfl
  have hG : GR P φ := fun g hg => (hR.glob g (by omega)).2
  have hv := opd_rel (tm := fr.tmps) (a := a) hG hg (hF.tr _)
  rw [hev] at hv
  obtain ⟨F, C, hgv, hrF, hrC⟩ := hv
  obtain ⟨ol, hol, hall⟩ := allO_spec h
  have hn0 := hR.next_none
  have hnew1 := hR.new .dfr (.deferred (some [])) 0 rfl (.inr trivial) ⟨hR.B_le, heap_alloc_new w _⟩
  obtain ⟨hR1, hle1⟩ := hnew1
  generalize hφ1 : φ.upd σ.next (w.heap.size, 0) = φ1 at hR1 hle1
  obtain ⟨rec, hrec⟩ : ∃ rec : Loop, rec = { state := .ready, pending := none, fn := b.fn, tmps := a.tmps, params := ps, assign := asg, body := body, defers := w.heap.size } := ⟨_, rfl⟩
  have hn1 := hR1.next_none
  have hLR : LoopR w0.P (φ1.upd (σ.new .dfr).next ((w.alloc (.deferred (some []))).heap.size, 0)) .ready none fr.tmps ps.toList (comp P true n asg) (comp P true n body) rec := by
    rw [hrec, hP]
    exact ⟨rfl, rfl, fun t => VR.mono (φ1.le_upd _ hn1) _ _ (VR.mono hle1 _ _ (hF.ts t)), rfl, n, hF.size, hps, rfl, rfl⟩
  have hnew2 := hR1.new (.loop .ready none fr.tmps ps.toList (comp P true n asg) (comp P true n body)) (.loop rec) 0 rfl (.inr trivial) ⟨hR1.B_le, rec, heap_alloc_new _ _, hLR⟩
  obtain ⟨hR2, hle2⟩ := hnew2
  generalize hφ2 : φ1.upd (σ.new .dfr).next ((w.alloc (.deferred (some []))).heap.size, 0) = φ2 at hR2 hle2 hLR
  have hnx : (σ.new .dfr).next = σ.next + 1 := rfl
  have hsz : (w.alloc (.deferred (some []))).heap.size = w.heap.size + 1 := by simp
  have hl2 : φ2 (σ.next + 1) = some (w.heap.size + 1, 0) := by rw [← hφ2, hnx, hsz, Phi.upd_same]
  have hm2 : φ2 σ.next = some (w.heap.size, 0) := hle2 _ _ (by rw [← hφ1, Phi.upd_same])
  generalize hW1 : (w.alloc (.deferred (some []))).alloc (.loop rec) = W1 at hR2
  have he : (Instr.enterLoop b.fn a.tmps ps asg body b.roundOf).run P w = .ok (w.heap.size + 1, [{ target := .collected w.heap.size, args := #[] }]) W1 := by
    rw [hbr, ← hW1, hrec]; exact run_enterLoop_outer _ _ _ _ _
  have hres : (resolve a.eval (rangeCall g (w.heap.size + 1)) 0).run P W1 = .ok { target := .fn (.func gf) C, args := F ++ #[.func (.yield (w.heap.size + 1)) #[] #[]] } W1 := by
    simp only [resolve, hgv]
    simp [go_sem]
  have hargs : LR φ2 (first ++ [.yield (σ.next + 1)] ++ cap) (F ++ #[Value.func (.yield (w.heap.size + 1)) #[] #[]] ++ C).toList := by
    have hle := hle1.trans hle2
    simp only [Array.toList_append]
    exact LR.append (LR.append (LR.mono hle _ _ hrF) (LR.cons (a := .yield (σ.next + 1)) (b := Value.func (.yield (w.heap.size + 1)) #[] #[]) ⟨_, _, hl2, rfl⟩ LR.nil)) (LR.mono hle _ _ hrC)
  have back : ∀ (x : Value) (w2 : World) (M : Machine), CPosts G B w0 φ2 ol (.returned x) w2 →
      StepsR P b M (lone (b.atR { a with defers := { target := .collected w.heap.size, args := #[] } :: a.defers } (.endRangeFunc (w.heap.size + 1) :: k)) cs w2) → Comes1 P G B w0 n φ outs M b k cs := by
    rintro x w2 M ⟨q, hq, φ3, y, hy, hle3, hR3, hvq⟩ hsteps
    obtain ⟨os, hos, hsub⟩ := hall q hq
    have hl3 := hle3 _ _ hl2
    have hle03 := (hle1.trans hle2).trans hle3
    have hF3 : FR P n φ3 ⟨fr.tmps, .mark σ.next :: fr.defers⟩ { a with defers := { target := .collected w.heap.size, args := #[] } :: a.defers } :=
      ⟨fun t => VR.mono hle03 _ _ (hF.ts t), hF.size, w.heap.size, 0, a.defers, rfl, hle3 _ _ hm2, hF.ds.mono hle03⟩
    unfold endLoopA at hos
    split at hos
    · rename_i tm ps' as bd hob
      cases hos
      obtain ⟨hBb, r, hr, hLr⟩ := hR3.obj _ _ _ _ hob hl3
      have hrun := run_endLoop (P := P) hr (by rw [hLr.1]; simp [LSt.to])
      have hp : (r.pending.map Item.code).toList = [] := by rw [hLr.2.1]; rfl
      have hst := stepR_endRangeFunc (b := b) (a := { a with defers := { target := .collected w.heap.size, args := #[] } :: a.defers }) (k := k) (cs := cs) hrun
      rw [hp] at hst
      have hset := hR3.setObj (o' := .dead) (O := .loop { r with state := .exhausted }) hob rfl rfl hl3 hBb rfl (fun _ => trivial)
      exact ⟨_, hsub _ (List.mem_singleton.2 rfl), _, _, φ3, hle03, hset, hF3, StepsIn.trans hsteps (stepsR_one hst)⟩
    · rename_i ex tm ps' as bd hob
      cases hos
      obtain ⟨hBb, r, hr, hLr⟩ := hR3.obj _ _ _ _ hob hl3
      have hrun := run_endLoop (P := P) hr (by rw [hLr.1]; simp [LSt.to])
      have hp : r.pending.map Item.code = (jumpC (some ex)).map Item.code := by rw [hLr.2.1]
      have hst := stepR_endRangeFunc (b := b) (a := { a with defers := { target := .collected w.heap.size, args := #[] } :: a.defers }) (k := k) (cs := cs) hrun
      rw [hp] at hst
      have hset := hR3.setObj (o' := .dead) (O := .loop { r with state := .exhausted }) hob rfl rfl hl3 hBb rfl (fun _ => trivial)
      exact ⟨_, hsub _ (List.mem_singleton.2 rfl), _, _, φ3, hle03, hset, hF3, arr_jump hb (StepsIn.trans hsteps (stepsR_one hst))⟩
    · cases hos
  rcases hcall.plain gf _ _ _ hol B w0 φ2 W1 _ hP hR2 hargs with ⟨hen, hcs⟩ | ⟨x, w2, hva, hp⟩
  · have hinv : (invoke (.fn (.func gf) C) (F ++ #[.func (.yield (w.heap.size + 1)) #[] #[]])).run P W1 = .ok (.enter gf (F ++ #[.func (.yield (w.heap.size + 1)) #[] #[]] ++ C)) W1 := by simpa [invoke] using hen
    have hst := stepR_rangeFunc (P := P) (b := b) (a := a) (k := k) (cs := cs) (w := w) he hres hinv
    obtain ⟨e, w2, fr2, hp, hcm, hfn, hlv⟩ := hcs (b.atR { a with defers := [{ target := .collected w.heap.size, args := #[] }] ++ a.defers } (.inRangeFunc (w.heap.size + 1) :: k) :: cs)
    have hpp := hp
    obtain ⟨q, hq, φ3, y, rfl, _⟩ := hpp
    refine back y w2 _ hp ?_
    refine StepsIn.trans (stepsR_one hst) (StepsIn.trans (stepsR_of hcm) (stepsR_one ?_))
    rw [show b.atR { a with defers := { target := .collected w.heap.size, args := #[] } :: a.defers } (.endRangeFunc (w.heap.size + 1) :: k) = (b.atR { a with defers := [{ target := .collected w.heap.size, args := #[] }] ++ a.defers } (.inRangeFunc (w.heap.size + 1) :: k)).finish y from (finish_atR_inRangeFunc _ _).symm]
    exact step_leave_returned hlv
  · have hinv : (invoke (.fn (.func gf) C) (F ++ #[.func (.yield (w.heap.size + 1)) #[] #[]])).run P W1 = .ok (.value x) w2 := by simpa [invoke] using hva
    exact back x w2 _ hp (stepsR_one (stepR_rangeFunc_value (P := P) (b := b) (a := a) (k := k) (cs := cs) (w := w) he hres hinv))

theorem noDefer_spec {rd : Bool} {ops : Array Oper} {b : Frame} {cs : List Frame} (h : noDefer rd ops = true) (hb : OkB rd b cs) : b.roundOf = none ∨ ∀ o ∈ ops.toList, ∀ c, o.op ≠ .defer c := by
  cases rd with
  | false => exact .inl (hb.plain rfl)
  | true =>
    refine .inr fun o ho c hc => ?_
    have := List.all_eq_true.1 (by simpa [noDefer] using h : ops.toList.all (fun o => !isDefer o) = true) o ho
    simp [isDefer, hc] at this

theorem exec_sound (hcall : CallSound P G call) (hL : LoopsOk P G L) (hdraw : DrawSound P G (detC call)) (hGP : P.globals.size ≤ G) (hP : w0.P = P) {rd : Bool} {n : Nat} : ∀ (f : Nat) (c : Code) {fr : Fr} {σ : St} {outs : List (Ex × Fr × St)}, exec call L f (comp P rd n c) fr σ = some outs →
    ∀ {φ : Phi} {a : Act} {w : World}, Rel G B w0 φ σ w → FR P n φ fr a → ∀ {b : Frame} {k : List Item} {cs : List Frame}, OkB rd b cs → Comes1 P G B w0 n φ outs (lone (b.atR a (.code c :: k)) cs w) b k cs := by
  intro f
  induction f using Nat.strongRecOn with
  | _ f ih =>
    intro c fr σ outs h φ a w hR hF b k cs hb
    cases f with
    | zero => simp [exec] at h
    | succ f =>
      cases c with
      | skip =>
        simp [comp, exec] at h; subst h
        exact ⟨_, List.mem_singleton.2 rfl, a, w, φ, Phi.le.refl _, hR, hF, stepsR_one stepR_skip⟩
      | label l =>
        simp [comp, exec] at h; subst h
        exact ⟨_, List.mem_singleton.2 rfl, a, w, φ, Phi.le.refl _, hR, hF, stepsR_one stepR_label⟩
      | exit id =>
        simp [comp, exec] at h; subst h
        exact ⟨_, List.mem_singleton.2 rfl, a, w, φ, Phi.le.refl _, hR, hF, arr_jump (ex := .exit id) hb (StepsIn.refl _)⟩
      | goto l =>
        simp [comp, exec] at h; subst h
        exact ⟨_, List.mem_singleton.2 rfl, a, w, φ, Phi.le.refl _, hR, hF, arr_jump (ex := .goto l) hb (StepsIn.refl _)⟩
      | ret =>
        simp [comp, exec] at h; subst h
        exact ⟨_, List.mem_singleton.2 rfl, a, w, φ, Phi.le.refl _, hR, hF, arr_jump (ex := .ret) hb (StepsIn.refl _)⟩
      | refuse why => simp [comp, exec] at h
      | rangeFunc g ps asg body =>
        simp only [comp] at h
        cases rd with
        | true => simp [exec] at h
        | false =>
          simp only [Bool.false_eq_true, if_false] at h
          split at h
          · rename_i g' hg
            split at h
            · rename_i hps
              simp only [exec] at h
              split at h
              · rename_i gf first cap hev
                exact range_sound hcall hGP hP hg (fun t ht => by have := List.all_eq_true.1 hps t ht; simpa using this) hev h hR hF hb
              · cases h
            · simp [exec] at h
          · simp [exec] at h
      | region id ops d =>
        simp only [comp] at h
        split at h
        rotate_left
        · simp [exec] at h
        rename_i hnd
        have hnd := noDefer_spec hnd hb
        cases d with
        | true =>
          simp only [if_true] at h
          split at h
          · rename_i dl hdl
            simp only [exec] at h
            split at h
            · rename_i fr1 σ1 hrd
              simp at h; subst h
              have hw := hdraw n id ops dl hdl fr fr1 σ σ1 hrd b.roundOf B w0 φ a w hnd hP hR hF
              exact come_of_wp (outs := [(fr1, σ1)]) (Go.wpIn_mono hw (fun e a' w' ⟨h1, φ', h2⟩ => ⟨h1, _, List.mem_singleton.2 rfl, φ', h2⟩)) k cs
            · cases h
          · simp [exec] at h
        | false =>
          simp only [Bool.false_eq_true, if_false] at h
          split at h
          · rename_i o r hops
            split at h
            · rename_i hcond
              obtain ⟨h1, h2, h3, rfl⟩ := hcond
              split at h
              · rename_i al hal
                simp only [exec] at h
                split at h
                · rename_i ol hol
                  simp only [Option.some.injEq] at h; subst h
                  exact regionR_sound hcall hGP hP hops h1 h2 h3 hal hol hR hF hb
                · cases h
              · simp [exec] at h
            · split at h
              · rename_i al hal
                simp only [exec] at h
                split at h
                · rename_i ol hol
                  simp only [Option.some.injEq] at h; subst h
                  rw [← hops] at hal
                  exact come_of_wp (wpIn_region_list (runOps_sound hcall hGP hP (ops := ops) ops.toList al hal hnd hol hR hF (fun q hq φ' a' w' h1 h2 h3 => ⟨rfl, q, hq, φ', h1, h2, h3⟩))) k cs
                · cases h
              · simp [exec] at h
          · rename_i hops
            simp [exec, runOps] at h; subst h
            refine come_of_wp (outs := [(fr, σ)]) (wpIn_region_list ?_) k cs
            rw [hops]
            exact ⟨rfl, _, List.mem_singleton.2 rfl, φ, Phi.le.refl _, hR, hF⟩
      | seq x y =>
        simp only [comp, exec] at h
        obtain ⟨ol, hol, hall⟩ := allO_spec h
        obtain ⟨o, ho, hc1⟩ := ih f (by omega) x hol hR hF (b := b) (k := .code y :: k) hb
        obtain ⟨os, hos, hsub⟩ := hall o ho
        obtain ⟨ex1, fr1, σ1⟩ := o
        have hst := stepsR_one (b := b) (stepR_seq (P := P) (b := b) (a := a) (k := k) (cs := cs) (w := w) (x := x) (y := y))
        cases ex1 with
        | normal =>
          obtain ⟨a1, w1, φ1, hle, hR1, hF1, harr⟩ := hc1
          have hc2 := ih f (by omega) y hos hR1 hF1 (b := b) (k := k) hb
          exact Comes1.of_steps (StepsIn.trans hst harr) ((Comes1.mono hle hc2).sub hsub)
        | exit id => cases hos; exact ⟨_, hsub _ (List.mem_singleton.2 rfl), Come.of_steps hst (Come.pass rfl (by simp) hc1)⟩
        | goto l => cases hos; exact ⟨_, hsub _ (List.mem_singleton.2 rfl), Come.of_steps hst (Come.pass rfl (by simp) hc1)⟩
        | ret => cases hos; exact ⟨_, hsub _ (List.mem_singleton.2 rfl), Come.of_steps hst (Come.pass rfl (by simp) hc1)⟩
      | cond c x y =>
        simp only [comp] at h
        split at h
        · rename_i c' hc'
          simp only [exec] at h
          split at h
          · rename_i t ht
            have hG : GR P φ := fun g hg => (hR.glob g (by omega)).2
            have hv := opd_rel (tm := fr.tmps) (a := a) hG hc' (hF.tr _)
            rw [ht] at hv
            have hv : a.eval c = .bool t := hv
            refine Comes1.of_steps (stepsR_one (stepR_cond hv)) ?_
            cases t with
            | true => simp only [if_true] at h ⊢; exact ih f (by omega) x h hR hF hb
            | false => simp only [Bool.false_eq_true, if_false] at h ⊢; exact ih f (by omega) y h hR hF hb
          · cases h
        · simp [exec] at h
      | block id x =>
        simp only [comp, exec] at h
        obtain ⟨ol, hol, hall⟩ := allO_spec h
        obtain ⟨o, ho, a1, w1, φ1, hle, hR1, hF1, harr⟩ := ih f (by omega) x hol hR hF (b := b) (k := .inBlock id :: k) hb
        obtain ⟨os, hos, hsub⟩ := hall o ho
        obtain ⟨ex1, fr1, σ1⟩ := o
        have harr := ArrivesIn.of_steps (stepsR_one (b := b) (stepR_block (P := P) (b := b) (a := a) (k := k) (cs := cs) (w := w) (id := id) (c := x))) harr
        cases ex1 with
        | normal =>
          cases hos
          exact ⟨_, hsub _ (List.mem_singleton.2 rfl), a1, w1, φ1, hle, hR1, hF1, StepsIn.trans harr (stepsR_one stepR_inBlock)⟩
        | exit id' =>
          simp only at hos
          by_cases hid : id' = id
          · rw [if_pos hid] at hos
            cases hos
            exact ⟨_, hsub _ (List.mem_singleton.2 rfl), a1, w1, φ1, hle, hR1, hF1, harr.1 k (by simp [exitTo, hid])⟩
          · rw [if_neg hid] at hos
            cases hos
            exact ⟨_, hsub _ (List.mem_singleton.2 rfl), a1, w1, φ1, hle, hR1, hF1, arr_inBlock (ex := .exit id') (by simp) (by simpa using hid) harr⟩
        | goto l => cases hos; exact ⟨_, hsub _ (List.mem_singleton.2 rfl), a1, w1, φ1, hle, hR1, hF1, arr_inBlock (ex := .goto l) (by simp) (by simp) harr⟩
        | ret => cases hos; exact ⟨_, hsub _ (List.mem_singleton.2 rfl), a1, w1, φ1, hle, hR1, hF1, arr_inBlock (ex := .ret) (by simp) (by simp) harr⟩
      | scope x =>
        simp only [comp, exec] at h
        obtain ⟨ol, hol, hall⟩ := allO_spec h
        obtain ⟨o, ho, a1, w1, φ1, hle, hR1, hF1, harr⟩ := ih f (by omega) x hol hR hF (b := b) (k := .inScope x :: k) hb
        obtain ⟨os, hos, hsub⟩ := hall o ho
        obtain ⟨ex1, fr1, σ1⟩ := o
        have harr := ArrivesIn.of_steps (stepsR_one (b := b) (stepR_scope' (P := P) (b := b) (a := a) (k := k) (cs := cs) (w := w) (c := x))) harr
        cases ex1 with
        | normal =>
          cases hos
          exact ⟨_, hsub _ (List.mem_singleton.2 rfl), a1, w1, φ1, hle, hR1, hF1, StepsIn.trans harr (stepsR_one stepR_inScope')⟩
        | exit id => cases hos; exact ⟨_, hsub _ (List.mem_singleton.2 rfl), a1, w1, φ1, hle, hR1, hF1, arr_inScope (ex := .exit id) (by simp) (by simp) harr⟩
        | goto l =>
          exact (Comes1.mono hle (scope_sound (c := x) (fun c' {_} {_} {_} hx => ih f (by omega) c' hx) f l hos hR1 hF1 hb _ harr)).sub hsub
        | ret => cases hos; exact ⟨_, hsub _ (List.mem_singleton.2 rfl), a1, w1, φ1, hle, hR1, hF1, arr_inScope (ex := .ret) (by simp) (by simp) harr⟩
      | loop x =>
        have key : ∀ (m : Nat), m ≤ f + 1 → ∀ {fr : Fr} {σ : St} {outs : List (Ex × Fr × St)}, exec call L m (.loop (comp P rd n x)) fr σ = some outs → ∀ {φ : Phi} {a : Act} {w : World}, Rel G B w0 φ σ w → FR P n φ fr a →
            Comes1 P G B w0 n φ outs (lone (b.atR a (.code x :: .inLoop x :: k)) cs w) b k cs := by
          intro m
          induction m with
          | zero => intro _ fr σ outs h; simp [exec] at h
          | succ m ihm =>
            intro hm fr σ outs h φ a w hR hF
            simp only [exec] at h
            split at h
            · rename_i res hg
              obtain ⟨ex1, fr1, σ1⟩ := res
              cases h
              exact ⟨_, List.mem_singleton.2 rfl, loopGet_ok hL hg rd n x rfl B w0 φ a w hP hR hF b k cs hb⟩
            · obtain ⟨ol, hol, hall⟩ := allO_spec h
              obtain ⟨o, ho, hc1⟩ := ih m (by omega) x hol hR hF (b := b) (k := .inLoop x :: k) hb
              obtain ⟨os, hos, hsub⟩ := hall o ho
              obtain ⟨ex1, fr1, σ1⟩ := o
              cases ex1 with
              | normal =>
                obtain ⟨a1, w1, φ1, hle, hR1, hF1, harr⟩ := hc1
                exact (Comes1.of_steps (StepsIn.trans harr (stepsR_one stepR_inLoop)) (Comes1.mono hle (ihm (by omega) hos hR1 hF1))).sub hsub
              | exit id => cases hos; exact ⟨_, hsub _ (List.mem_singleton.2 rfl), Come.pass rfl (by simp) hc1⟩
              | goto l => cases hos; exact ⟨_, hsub _ (List.mem_singleton.2 rfl), Come.pass rfl (by simp) hc1⟩
              | ret => cases hos; exact ⟨_, hsub _ (List.mem_singleton.2 rfl), Come.pass rfl (by simp) hc1⟩
        simp only [comp] at h
        exact Comes1.of_steps (stepsR_one stepR_loop) (key (f + 1) (Nat.le_refl _) h hR hF)

theorem loop_sound (hcall : CallSound P G call) (hL : LoopsOk P G L) (hdraw : DrawSound P G (detC call)) (hGP : P.globals.size ≤ G) (hP : w0.P = P) {rd : Bool} {n : Nat} {x : Code} {b : Frame} {k : List Item} {cs : List Frame} (hb : OkB rd b cs) :
    ∀ (m : Nat) {fr : Fr} {σ : St} {outs : List (Ex × Fr × St)}, exec call L m (.loop (comp P rd n x)) fr σ = some outs → ∀ {φ : Phi} {a : Act} {w : World}, Rel G B w0 φ σ w → FR P n φ fr a →
            Comes1 P G B w0 n φ outs (lone (b.atR a (.code x :: .inLoop x :: k)) cs w) b k cs := by
  intro m
  induction m with
  | zero => intro fr σ outs h; simp [exec] at h
  | succ m ihm =>
    intro fr σ outs h φ a w hR hF
    simp only [exec] at h
    split at h
    · rename_i res hg
      obtain ⟨ex1, fr1, σ1⟩ := res
      cases h
      exact ⟨_, List.mem_singleton.2 rfl, loopGet_ok hL hg rd n x rfl B w0 φ a w hP hR hF b k cs hb⟩
    · obtain ⟨ol, hol, hall⟩ := allO_spec h
      obtain ⟨o, ho, hc1⟩ := exec_sound hcall hL hdraw hGP hP m x hol hR hF (b := b) (k := .inLoop x :: k) hb
      obtain ⟨os, hos, hsub⟩ := hall o ho
      obtain ⟨ex1, fr1, σ1⟩ := o
      cases ex1 with
      | normal =>
        obtain ⟨a1, w1, φ1, hle, hR1, hF1, harr⟩ := hc1
        exact (Comes1.of_steps (StepsIn.trans harr (stepsR_one stepR_inLoop)) (Comes1.mono hle (ihm hos hR1 hF1))).sub hsub
      | exit id => cases hos; exact ⟨_, hsub _ (List.mem_singleton.2 rfl), Come.pass rfl (by simp) hc1⟩
      | goto l => cases hos; exact ⟨_, hsub _ (List.mem_singleton.2 rfl), Come.pass rfl (by simp) hc1⟩
      | ret => cases hos; exact ⟨_, hsub _ (List.mem_singleton.2 rfl), Come.pass rfl (by simp) hc1⟩
end AM
namespace AM
open Go Go.RowKit
set_option linter.unusedVariables false
set_option linter.unusedSimpArgs false
variable {P : Program} {φ : Phi} {tm : T V} {a : Act} {w : World} {w0 : Base} {σ σ' : St} {G B : Nat} {call : CallT} {b : Frame}

def resV (tmps : Array Value) : ResultVar → Sem Value
  | .tmp t => pure (tmps.getD t Go.undef)
  | .cell b t => do loadVar t (← asAddr (tmps.getD b Go.undef))

theorem results_list {n : Nat} {fr : Fr} (hF : FR P n φ fr a) (hR : Rel G B w0 φ σ w) : ∀ {l : List ResultVar} {rs : List Res} {vs : List V}, compRes P l = some rs → readResults fr.tmps σ rs = some vs →
    ∃ xs : List Value, (l.mapM (resV a.tmps)).run P w = .ok xs w ∧ LR φ vs xs
  | [], rs, vs, hc, hr => by simp [compRes] at hc; subst hc; simp [readResults] at hr; subst hr; exact ⟨[], rfl, LR.nil⟩
  | .tmp t :: r, rs, vs, hc, hr => by
    simp only [compRes] at hc
    split at hc
    · rename_i l hl
      simp at hc; subst hc
      simp only [readResults] at hr
      split at hr
      · rename_i l2 hl2
        simp at hr; subst hr
        obtain ⟨xs, hx, hlr⟩ := results_list hF hR hl hl2
        exact ⟨a.tmps.getD t Go.undef :: xs, by simp only [List.mapM_cons, resV, Sem.run_bind, Sem.run_pure, Result.andThen_ok, hx], LR.cons (hF.ts t) hlr⟩
      · cases hr
    · cases hc
  | .cell b t :: r, rs, vs, hc, hr => by
    simp only [compRes] at hc
    split at hc
    · rename_i l g m hl hg hm
      simp at hc; subst hc
      simp only [readResults] at hr
      split at hr
      · rename_i id off hid
        split at hr
        · cases hr
        · rename_i l2 hl2
          obtain ⟨xs, hx, hlr⟩ := results_list hF hR hl hl2
          have hp := hF.ts b
          rw [hid] at hp
          obtain ⟨bb, nn, hbb, hpp⟩ := hp
          cases g with
          | true =>
            simp only [if_true] at hr
            split at hr
            · rename_i vs2 hvs
              simp at hr; subst hr
              obtain ⟨ys, hyr, hlen, hcell⟩ := hR.load hvs hbb
              have hld := run_loadCells_list (P := P) w ⟨bb, off, none⟩ ys hcell
              rw [hlen] at hld
              refine ⟨.agg ys.toArray :: xs, ?_, LR.cons (VR.agg (by simpa using hyr)) hlr⟩
              simp only [List.mapM_cons, resV, Sem.run_bind, hpp, asAddr, Sem.run_pure, Result.andThen_ok, loadVar, run_isAgg' hg, if_true, run_sizeOf' hm, hld, hx]
            · cases hr
          | false =>
            simp only [Bool.false_eq_true, if_false] at hr
            split at hr
            · rename_i v hv
              simp at hr; subst hr
              obtain ⟨X, hX, hvX⟩ := hR.cell hv hbb
              refine ⟨X :: xs, ?_, LR.cons hvX hlr⟩
              simp only [List.mapM_cons, resV, Sem.run_bind, hpp, asAddr, Sem.run_pure, Result.andThen_ok, loadVar, run_isAgg' hg, Bool.false_eq_true, if_false, run_load, hX, hx]
            · cases hr
      · cases hr
    · cases hc

theorem results_sound {n : Nat} {fr : Fr} (hF : FR P n φ fr a) (hR : Rel G B w0 φ σ w) {fn : Func} {rs : List Res} {vs : List V} (hc : compRes P fn.results.toList = some rs) (hr : readResults fr.tmps σ rs = some vs) :
    ∃ x, (results fn a.tmps).run P w = .ok x w ∧ VR φ (retV vs) x := by
  obtain ⟨xs, hx, hlr⟩ := results_list hF hR hc hr
  have hl := hlr.length
  have hrun : (results fn a.tmps).run P w = .ok (if h : xs.toArray.size = 1 then xs.toArray[0] else .tuple xs.toArray) w := by
    have hfun : results fn a.tmps = (do
        let vs ← fn.results.mapM (resV a.tmps)
        pure (if h : vs.size = 1 then vs[0] else .tuple vs)) := by
      unfold results
      congr 1
    rw [hfun, Array.mapM_eq_mapM_toList]
    simp only [Sem.run_bind, Sem.run_map]
    rw [hx]
    rfl
  refine ⟨_, hrun, ?_⟩
  cases vs with
  | nil => cases hlr; exact ⟨#[], rfl, LR.nil⟩
  | cons v vs =>
    obtain ⟨x, s, rfl, hv, hs⟩ := hlr
    cases vs with
    | nil => cases hs; exact hv
    | cons u vs =>
      obtain ⟨y, s, rfl, hu, hs⟩ := hs
      rw [dif_neg (by simp)]
      exact ⟨_, rfl, LR.cons hv (LR.cons hu hs)⟩
def LeavesM (P : Program) (fn : Func) (tmps : Array Value) (R : Ending → World → Prop) : List Deferred → FrameMode → World → Prop
  | [], u, w => Leaves P fn tmps R [] u w
  | d :: ds, u, w => u ≠ .run ∧
      ((∃ r w', d.target = .collected r ∧ (Instr.takeDeferred r).run P w = .ok [] w' ∧ LeavesM P fn tmps R ds u w') ∨
       (∃ ats ty cs v w', d.target = .builtin .delete ats ty cs ∧ (invoke d.target d.args).run P w = .ok (.value v) w' ∧ LeavesM P fn tmps R ds u w') ∨
       (∃ fv cap f args, d.target = .fn fv cap ∧ (invoke d.target d.args).run P w = .ok (.enter f args) w ∧
        CallsD P f args u w fun
          | .returned _, u', w' => LeavesM P fn tmps R ds (settle u') w'
          | .panicked chain, u', w' => LeavesM P fn tmps R ds (raised u' chain) w'
          | .outgrown, _, w' => R .outgrown w'))

theorem step_builtin {fr : Frame} {cs : List Frame} {w w' : World} {d : Deferred} {ds : List Deferred} {ats : Array TypeId} {ty : TypeId} {bs : Array Bool} {v : Value}
    (hm : fr.mode ≠ .run) (hd : fr.defers = d :: ds) (ht : d.target = .builtin .delete ats ty bs) (hk : (invoke d.target d.args).run P w = .ok (.value v) w') :
    step P (lone fr cs w) = .next (lone { fr with defers := ds } cs w') := by
  obtain ⟨t, a⟩ := d
  simp only at ht
  subst ht
  simp only at hk
  refine step_lone_go ?_
  cases hmode : fr.mode with
  | run => exact absurd hmode hm
  | returning => simp [stepG, unwind, callDeferred, hmode, hd, Sem.runT_eq, hk, GStep.bare_after]
  | panicking chain => simp [stepG, unwind, callDeferred, hmode, hd, Sem.runT_eq, hk, GStep.bare_after]

theorem leavesM_steps {fn : Func} {tmps : Array Value} {R : Ending → World → Prop} : ∀ (ds : List Deferred) (u : FrameMode) (w : World) (fr : Frame)
    (cs : List Frame), fr.mode = u → fr.defers = ds → fr.tmps = tmps → P.funcs[fr.fn]? = some fn → fr.kind = .normal → LeavesM P fn tmps R ds u w →
    ∃ e w' fr', R e w' ∧ Comes P (lone fr cs w) (lone fr' cs w') e ∧ fr'.fn = fr.fn ∧ fr'.leaving P w' e := by
  intro ds
  induction ds with
  | nil => intro u w fr cs hu hd ht hf hk h; exact leaves_steps [] u w fr cs hu hd ht hf hk h
  | cons d ds ih =>
    intro u w fr cs hu hd ht hf hk h
    obtain ⟨hrun, h⟩ := h
    rcases h with ⟨r, w', htar, htake, hrest⟩ | ⟨ats, ty, bs, v, w', htar, hinv, hrest⟩ | ⟨fv, cap, f, args, htar, hinv, hcall⟩
    · have h1 := step_collected (cs := cs) (hu ▸ hrun) hd htar htake
      obtain ⟨e', w'', fr', hR', hs', hfn', hl'⟩ := ih u w' { fr with defers := [] ++ ds } cs hu rfl ht hf hk hrest
      exact ⟨e', w'', fr', hR', Comes.of_steps (.one h1) hs', hfn', hl'⟩
    · have h1 := step_builtin (cs := cs) (hu ▸ hrun) hd htar hinv
      obtain ⟨e', w'', fr', hR', hs', hfn', hl'⟩ := ih u w' { fr with defers := ds } cs hu rfl ht hf hk hrest
      exact ⟨e', w'', fr', hR', Comes.of_steps (.one h1) hs', hfn', hl'⟩
    · have h1 := step_defer (cs := cs) (hu ▸ hrun) hd htar hinv
      obtain ⟨e, u', w', frX, hR, hsteps, hkX, hgo⟩ := hcall { fr with defers := ds } cs hu
      cases e with
      | returned v =>
        have h2 := step_going_returned (c := { { fr with defers := ds } with mode := u' }) (cs := cs) hkX hgo
        obtain ⟨e', w'', fr', hR', hs', hfn', hl'⟩ := ih (settle u') w' { { { fr with defers := ds } with mode := u' } with mode := settle u' } cs rfl rfl ht hf hk hR
        exact ⟨e', w'', fr', hR', Comes.of_steps (.head h1 (Steps.trans hsteps (.one h2))) hs', hfn', hl'⟩
      | panicked chain =>
        have h2 := step_going_panicked (c := { { fr with defers := ds } with mode := u' }) (cs := cs) hgo
        obtain ⟨e', w'', fr', hR', hs', hfn', hl'⟩ := ih (raised u' chain) w' { { { fr with defers := ds } with mode := u' } with mode := raised u' chain } cs rfl rfl ht hf hk hR
        exact ⟨e', w'', fr', hR', Comes.of_steps (.head h1 (Steps.trans hsteps (.one h2))) hs', hfn', hl'⟩
      | outgrown => exact ⟨.outgrown, w', fr, hR, Outgrown.of_steps (.one h1) hsteps, rfl, trivial⟩
theorem leavesM_stepsD {fn : Func} {tmps : Array Value} {R : Ending → World → Prop} : ∀ (ds : List Deferred) (u : FrameMode) (w : World) (fr : Frame)
    (cs : List Frame), fr.mode = u → fr.defers = ds → fr.tmps = tmps → P.funcs[fr.fn]? = some fn → fr.kind = .deferred → LeavesM P fn tmps R ds u w →
    ∃ e w' fr', R e w' ∧ Comes P (lone fr cs w) (lone fr' cs w') e ∧ fr'.kind = .deferred ∧ fr'.going P w' e := by
  intro ds
  induction ds with
  | nil =>
    intro u w fr cs hu hd ht hf hk h
    cases u with
    | run => exact h.elim
    | returning =>
      obtain ⟨v, hr, hR⟩ := h
      exact ⟨.returned v, w, fr, hR, Steps.refl P _, hk, hu, hd, fn, hf, ht ▸ hr⟩
    | panicking chain => exact ⟨.panicked chain, w, fr, h, Steps.refl P _, hk, hu, hd, fn, hf⟩
  | cons d ds ih =>
    intro u w fr cs hu hd ht hf hk h
    obtain ⟨hrun, h⟩ := h
    rcases h with ⟨r, w', htar, htake, hrest⟩ | ⟨ats, ty, bs, v, w', htar, hinv, hrest⟩ | ⟨fv, cap, f, args, htar, hinv, hcall⟩
    · have h1 := step_collected (cs := cs) (hu ▸ hrun) hd htar htake
      obtain ⟨e', w'', fr', hR', hs', hfn', hl'⟩ := ih u w' { fr with defers := [] ++ ds } cs hu rfl ht hf hk hrest
      exact ⟨e', w'', fr', hR', Comes.of_steps (.one h1) hs', hfn', hl'⟩
    · have h1 := step_builtin (cs := cs) (hu ▸ hrun) hd htar hinv
      obtain ⟨e', w'', fr', hR', hs', hfn', hl'⟩ := ih u w' { fr with defers := ds } cs hu rfl ht hf hk hrest
      exact ⟨e', w'', fr', hR', Comes.of_steps (.one h1) hs', hfn', hl'⟩
    · have h1 := step_defer (cs := cs) (hu ▸ hrun) hd htar hinv
      obtain ⟨e, u', w', frX, hR, hsteps, hkX, hgo⟩ := hcall { fr with defers := ds } cs hu
      cases e with
      | returned v =>
        have h2 := step_going_returned (c := { { fr with defers := ds } with mode := u' }) (cs := cs) hkX hgo
        obtain ⟨e', w'', fr', hR', hs', hfn', hl'⟩ := ih (settle u') w' { { { fr with defers := ds } with mode := u' } with mode := settle u' } cs rfl rfl ht hf hk hR
        exact ⟨e', w'', fr', hR', Comes.of_steps (.head h1 (Steps.trans hsteps (.one h2))) hs', hfn', hl'⟩
      | panicked chain =>
        have h2 := step_going_panicked (c := { { fr with defers := ds } with mode := u' }) (cs := cs) hgo
        obtain ⟨e', w'', fr', hR', hs', hfn', hl'⟩ := ih (raised u' chain) w' { { { fr with defers := ds } with mode := u' } with mode := raised u' chain } cs rfl rfl ht hf hk hR
        exact ⟨e', w'', fr', hR', Comes.of_steps (.head h1 (Steps.trans hsteps (.one h2))) hs', hfn', hl'⟩
      | outgrown => exact ⟨.outgrown, w', fr, hR, Outgrown.of_steps (.one h1) hsteps, hk, trivial⟩

theorem leaves_sound (hcall : DefSound P G call) (hP : w0.P = P) {fn : Func} {tmps : Array Value} {R : Ending → World → Prop} : ∀ (ds : Dfs) (dfs : List Deferred) {σ σ' : St} {φ : Phi} {w : World}, runDefers call ds σ = some σ' → DR P φ ds dfs → Rel G B w0 φ σ w →
    (∀ φ' w', φ.le φ' → Rel G B w0 φ' σ' w' → ∃ v, (results fn tmps).run P w' = .ok v w' ∧ R (.returned v) w') → LeavesM P fn tmps R dfs .returning w
  | [], dfs, σ, σ', φ, w, hr, hD, hR, hk => by
    simp [runDefers] at hr; subst hr
    have : dfs = [] := hD
    subst this
    exact hk φ w (Phi.le.refl _) hR
  | .call g xs :: r, dfs, σ, σ', φ, w, hr, hD, hR, hk => by
    obtain ⟨cap, A, s, rfl, hxs, hs⟩ := hD
    simp only [runDefers] at hr
    split at hr
    · rename_i v σ1 hcl
      refine ⟨by simp, .inr (.inr ⟨.func g, cap, g, A ++ cap, rfl, ?_, ?_⟩)⟩
      · have := hcall.enter g _ σ _ _ hcl (A ++ cap) w
        simpa [invoke] using this
      · refine CallsD.mono (hcall.callsD g _ σ _ _ hcl B w0 φ w _ hP hR hxs) ?_
        rintro e u w' ⟨rfl, φ1, x, rfl, hle, hR1, hv⟩
        exact leaves_sound hcall hP r s hr (hs.mono hle) hR1 (fun φ' w'' hle' => hk φ' w'' (hle.trans hle'))
    · cases hr
  | .mark m :: r, dfs, σ, σ', φ, w, hr, hD, hR, hk => by
    obtain ⟨b, n, s, rfl, hb, hs⟩ := hD
    simp only [runDefers] at hr
    split at hr
    · rename_i ho
      obtain ⟨hBb, hh⟩ := hR.obj _ _ _ _ ho hb
      have hset := hR.setObj (o' := .dead) (O := .deferred none) ho rfl rfl hb hBb rfl (fun _ => trivial)
      exact ⟨by simp, .inl ⟨b, _, rfl, run_takeDeferred hh, leaves_sound hcall hP r s hr hs hset hk⟩⟩
    · cases hr
  | .del kk m q :: r, dfs, σ, σ', φ, w, hr, hD, hR, hk => by
    obtain ⟨ats, ty, cs, X, Y, t, kt, e, s, rfl, hat, hu, hkk, h1, h2, hs⟩ := hD
    simp only [runDefers] at hr
    split at hr
    · rename_i σ1 hdel
      obtain ⟨w', hrun, hR'⟩ := delV_sound (P := P) (ty := ty) hdel hat hu hkk h1 h2 hR
      exact ⟨by simp, .inr (.inl ⟨ats, ty, cs, .tuple #[], w', rfl, by simp [invoke, builtin, hrun], leaves_sound hcall hP r s hr hs hR' hk⟩)⟩
    · cases hr
def Plain1 (P : Program) (G : Nat) (g : FuncId) (xs : List V) (σ : St) (v : V) (σ' : St) : Prop :=
  ∀ B w0 φ w (args : Array Value), w0.P = P → Rel G B w0 φ σ w → LR φ xs args.toList →
    ((callFunc g args).run P w = .ok (.enter g args) w ∧ Calls P g args w (CPost G B w0 φ σ' v)) ∨
    ∃ x w' φ', (callFunc g args).run P w = .ok (.value x) w' ∧ φ.le φ' ∧ Rel G B w0 φ' σ' w' ∧ VR φ' v x
def Def1 (P : Program) (G : Nat) (g : FuncId) (xs : List V) (σ : St) (v : V) (σ' : St) : Prop :=
  (∀ args w, (callFunc g args).run P w = .ok (.enter g args) w) ∧
    ∀ B w0 φ w (args : Array Value), w0.P = P → Rel G B w0 φ σ w → LR φ xs args.toList → CallsD P g args .returning w fun e u w' => u = .returning ∧ CPost G B w0 φ σ' v e w'
def PlainN (P : Program) (G : Nat) (g : FuncId) (xs : List V) (σ : St) (outs : List (V × St)) : Prop :=
  ∀ B w0 φ w (args : Array Value), w0.P = P → Rel G B w0 φ σ w → LR φ xs args.toList →
    ((callFunc g args).run P w = .ok (.enter g args) w ∧ Calls P g args w (CPosts G B w0 φ outs)) ∨
    ∃ x w', (callFunc g args).run P w = .ok (.value x) w' ∧ CPosts G B w0 φ outs (.returned x) w'
def DefN (P : Program) (G : Nat) (g : FuncId) (xs : List V) (σ : St) (outs : List (V × St)) : Prop :=
  (∀ args w, (callFunc g args).run P w = .ok (.enter g args) w) ∧
    ∀ B w0 φ w (args : Array Value), w0.P = P → Rel G B w0 φ σ w → LR φ xs args.toList → CallsD P g args .returning w fun e u w' => u = .returning ∧ CPosts G B w0 φ outs e w'

theorem Plain1.N {g : FuncId} {xs : List V} {v : V} (h : Plain1 P G g xs σ v σ') : PlainN P G g xs σ [(v, σ')] := by
  intro B w0 φ w args hP hR hL
  rcases h B w0 φ w args hP hR hL with ⟨h1, h2⟩ | ⟨x, w', φ', h1, h2, h3, h4⟩
  · exact .inl ⟨h1, h2.mono (fun e w' h3 => ⟨_, List.mem_singleton.2 rfl, h3⟩)⟩
  · exact .inr ⟨x, w', h1, _, List.mem_singleton.2 rfl, φ', x, rfl, h2, h3, h4⟩
theorem Def1.N {g : FuncId} {xs : List V} {v : V} (h : Def1 P G g xs σ v σ') : DefN P G g xs σ [(v, σ')] :=
  ⟨h.1, fun B w0 φ w args hP hR hL => (h.2 B w0 φ w args hP hR hL).mono (fun e u w' h3 => ⟨h3.1, _, List.mem_singleton.2 rfl, h3.2⟩)⟩
structure EnvOk (P : Program) (G : Nat) (Γ : T AF) : Prop where
  code : ∀ g fn, Γ.get g = some (.code fn) → ∃ f, P.funcs[g]? = some f ∧ compFn P f = some fn
  ext : ∀ g e xs σ v σ', Γ.get g = some (.ext e) → extCall e xs σ = some (v, σ') → Plain1 P G g xs σ v σ' ∧ (e = .unlock → Def1 P G g xs σ v σ')

def MemoOk (P : Program) (G : Nat) (m : Memo) : Prop := Plain1 P G m.g m.xs m.σ m.v m.σ' ∧ Def1 P G m.g m.xs m.σ m.v m.σ'

theorem killAll_get2 (l : List Nat) : ∀ (o : T Obj) (a : Nat), (killAll l o).get a = o.get a ∨ ((killAll l o).get a = some .dead ∧ ∃ q, o.get a = some q) := by
  induction l with
  | nil => intro o a; exact .inl rfl
  | cons m r ih =>
    intro o a
    simp only [killAll]
    split
    · rename_i q hq
      rcases ih (o.set m .dead) a with h | ⟨h, q', hq'⟩
      · rw [T.get_set] at h
        by_cases e : a = m
        · subst e; rw [if_pos rfl] at h; exact .inr ⟨h, q, hq⟩
        · rw [if_neg e] at h; exact .inl h
      · refine .inr ⟨h, ?_⟩
        rw [T.get_set] at hq'
        by_cases e : a = m
        · subst e; exact ⟨q, hq⟩
        · rw [if_neg e] at hq'; exact ⟨q', hq'⟩
    · exact ih o a

theorem Rel.kill (h : Rel G B w0 φ σ w) (l : List Nat) : Rel G B w0 φ { σ with objs := killAll l σ.objs } w := by
  have key : ∀ a o, (killAll l σ.objs).get a = some o → σ.objs.get a = some o ∨ (o = .dead ∧ ∃ q, σ.objs.get a = some q) := by
    intro a o ho
    rcases killAll_get2 l σ.objs a with h | ⟨h, q, hq⟩
    · rw [h] at ho; exact .inl ho
    · rw [h] at ho; cases ho; exact .inr ⟨rfl, q, hq⟩
  refine ⟨h.below, h.B_le, h.dom, h.glob, ?_, ?_, ?_, ?_, h.gfresh, h.pend⟩
  · intro a o b n ho ha
    rcases key a o ho with h1 | ⟨rfl, _⟩
    · exact h.obj a o b n h1 ha
    · trivial
  · intro a ha
    have h0 := h.fresh a ha
    rcases killAll_get2 l σ.objs a with h1 | ⟨_, q, hq⟩
    · simp only; rw [h1]; exact h0
    · rw [h0] at hq; cases hq
  · intro a a' o o' b n n' hne ho ho' hm hl ha ha'
    rcases key a o ho with h1 | ⟨rfl, _⟩
    · rcases key a' o' ho' with h2 | ⟨rfl, _⟩
      · exact h.sep a a' o o' b n n' hne h1 h2 hm hl ha ha'
      · cases hl
    · cases hm
  · intro a o ho hg
    rcases key a o ho with h1 | ⟨rfl, _⟩
    · exact h.grp a o h1 hg
    · exact (hg rfl).elim

theorem Plain1.kill {g : FuncId} {xs : List V} {v : V} {l : List Nat} (h : Plain1 P G g xs { σ with objs := killAll l σ.objs } v σ') : Plain1 P G g xs σ v σ' :=
  fun B w0 φ w args hP hR hL => h B w0 φ w args hP (hR.kill l) hL
theorem Def1.kill {g : FuncId} {xs : List V} {v : V} {l : List Nat} (h : Def1 P G g xs { σ with objs := killAll l σ.objs } v σ') : Def1 P G g xs σ v σ' :=
  ⟨h.1, fun B w0 φ w args hP hR hL => h.2 B w0 φ w args hP (hR.kill l) hL⟩

theorem memoGet_ok : ∀ {M : List Memo} {g : FuncId} {xs : List V} {σ σ' : St} {v : V}, (∀ m ∈ M, MemoOk P G m) → memoGet M g xs σ = some (v, σ') → Plain1 P G g xs σ v σ' ∧ Def1 P G g xs σ v σ'
  | [], g, xs, σ, σ', v, hM, h => by simp [memoGet] at h
  | m :: r, g, xs, σ, σ', v, hM, h => by
    simp only [memoGet] at h
    split at h
    · rename_i hc
      simp only [Bool.and_eq_true, beq_iff_eq] at hc
      obtain ⟨rfl, _, h1, _, h2⟩ := hc
      simp at h; obtain ⟨rfl, rfl⟩ := h
      have hm := hM m (by simp)
      rw [MemoOk, sameSt_eq _ _ h2] at hm
      rw [← sameL_eq _ _ h1]
      exact ⟨hm.1.kill, hm.2.kill⟩
    · exact memoGet_ok (fun m hm => hM m (by simp [hm])) h

theorem ofList_rel {n : Nat} {xs : List V} {args : Array Value} (h : LR φ xs args.toList) : FR P n φ (enter xs) { tmps := args ++ Array.replicate (n - args.size) Go.undef, defers := [] } := by
  have hl := h.length
  refine ⟨fun t => ?_, by simp; omega, rfl⟩
  simp only [enter, ofList_get, Array.getD_eq_getD_getElem?]
  by_cases c : t < xs.length
  · obtain ⟨x, hx, hv⟩ := h.get t xs[t] (by simp [c])
    rw [Array.getElem?_append_left (by simp at hl; omega)]
    have : args[t]? = some x := by simpa using hx
    rw [this]
    simp [c]; exact hv
  · rw [List.getElem?_eq_none (by omega)]
    have : (args ++ Array.replicate (n - args.size) Go.undef)[t]?.getD Go.undef = Go.undef := by
      rw [Array.getElem?_append_right (by simp at hl; omega), Array.getElem?_replicate]
      split <;> rfl
    rw [this]; exact VR.undef

theorem compFn_spec {f : Func} {fn : AFunc} (h : compFn P f = some fn) : f.name ≠ "runtime.NumGoroutine" ∧ ∃ b, f.body = some b ∧ fn.body = comp P false f.ntmps b ∧ compRes P f.results.toList = some fn.results := by
  unfold compFn at h
  split at h
  · cases h
  · rename_i hn
    split at h
    · cases h
    · rename_i b hb
      split at h
      · rename_i rs hrs; cases h; exact ⟨hn, b, hb, rfl, hrs⟩
      · cases h

theorem callFunc_enter {g : FuncId} {f : Func} {b : Code} (hf : P.funcs[g]? = some f) (hn : f.name ≠ "runtime.NumGoroutine") (hb : f.body = some b) (args : Array Value) (w : World) :
    (callFunc g args).run P w = .ok (.enter g args) w := by
  simp [callFunc, hf, hn, hb]

theorem detC_spec {call : CallN} {c : Ce} {xs : List V} {r : V × St} (h : detC call c xs σ = some r) : call c xs σ = some [r] := by
  unfold detC at h
  split at h
  · rename_i r' hr; cases h; exact hr
  · cases h

theorem defOnly_spec {Γ : T AF} {call : CallN} {g : FuncId} {xs : List V} {r : V × St} (h : defOnly Γ call (.fn g) xs σ = some r) : call (.fn g) xs σ = some [r] ∧ ∀ e, Γ.get g = some (.ext e) → e = .unlock := by
  simp only [defOnly] at h
  split at h
  · rename_i fn hfn; exact ⟨detC_spec h, fun e he => by rw [hfn] at he; cases he⟩
  · rename_i hfn; exact ⟨detC_spec h, fun e he => by rw [hfn] at he; cases he; rfl⟩
  · cases h

theorem putArgs_rel {n : Nat} : ∀ {ps : List Nat} {xs : List V} {args : List Value} {tm tm' : T V} {A : Array Value}, putArgs tm ps xs = some tm' → LR φ xs args → (∀ t, VR φ ((tm.get t).getD .undef) (A.getD t Go.undef)) → n ≤ A.size → (∀ p ∈ ps, p < n) →
    args.length = ps.length ∧ (∀ t, VR φ ((tm'.get t).getD .undef) (((ps.zip args).foldl (fun tmps (t, a) => tmps.setIfInBounds t a) A).getD t Go.undef)) ∧ n ≤ ((ps.zip args).foldl (fun tmps (t, a) => tmps.setIfInBounds t a) A).size
  | [], [], args, tm, tm', A, h, hL, hT, hn, hps => by
    simp [putArgs] at h; subst h
    cases hL
    exact ⟨rfl, hT, hn⟩
  | [], x :: xs, args, tm, tm', A, h, hL, hT, hn, hps => by simp [putArgs] at h
  | p :: ps, [], args, tm, tm', A, h, hL, hT, hn, hps => by simp [putArgs] at h
  | p :: ps, x :: xs, args, tm, tm', A, h, hL, hT, hn, hps => by
    obtain ⟨y, s, rfl, hx, hs⟩ := hL
    simp only [putArgs] at h
    have hp : p < A.size := Nat.lt_of_lt_of_le (hps p List.mem_cons_self) hn
    obtain ⟨h1, h2, h3⟩ := putArgs_rel (A := A.setIfInBounds p y) h hs (fun t => by
      rw [T.get_set]
      by_cases e : t = p
      · subst e
        rw [if_pos rfl]
        have : (A.setIfInBounds t y).getD t Go.undef = y := by simp [Array.getD, hp]
        rw [this]; exact hx
      · rw [if_neg e]
        have : (A.setIfInBounds p y).getD t Go.undef = A.getD t Go.undef := by
          rw [Array.getD_eq_getD_getElem?, Array.getD_eq_getD_getElem?, Array.getElem?_setIfInBounds_ne (Ne.symm e)]
        rw [this]; exact hT t) (by simpa using hn) (fun q hq => hps q (List.mem_cons_of_mem _ hq))
    exact ⟨by simp [h1], h2, h3⟩

theorem fold_zip (ps : Array Tmp) (args : Array Value) (A : Array Value) : (ps.zip args).foldl (fun tmps (t, a) => tmps.setIfInBounds t a) A = (ps.toList.zip args.toList).foldl (fun tmps (t, a) => tmps.setIfInBounds t a) A := by
  rw [← Array.foldl_toList, Array.toList_zip]
theorem round_sound {call : CallN} {L : List LMemo} (hcall : CallSound P G call) (hL : LoopsOk P G L) (hdraw : DrawSound P G (detC call)) (hGP : P.globals.size ≤ G) (hP : w0.P = P) {f l : Nat} {xs : List V} {tm tm' : T V} {pe : Option Ex} {ps : List Nat} {asg body : AC}
    (ho : σ.objs.get l = some (.loop .ready pe tm ps asg body)) (hpa : putArgs tm ps xs = some tm') {outs : List (V × St)} (h : allO (exec call L f asg ⟨tm', []⟩ σ) (beginRoundA l (exec call L f body)) = some outs)
    {args : Array Value} {b n : Nat} (ha : φ l = some (b, n)) (hR : Rel G B w0 φ σ w) (hA : LR φ xs args.toList) :
    ∃ fn tmps asg body, (Instr.yield b args).run P w = .ok (.round b fn tmps asg body) w ∧ RoundIn Fence.wide 0 P b fn tmps asg body w (CPosts G B w0 φ outs) := by
  obtain ⟨hBb, r, hr, hst, hpe, htm, hps, m, hm, hpm, hasg, hbody⟩ := hR.obj _ _ _ _ ho ha
  obtain ⟨h1, h2, h3⟩ := putArgs_rel (A := r.tmps) hpa hA htm hm hpm
  rw [← hps] at h1 h2 h3
  rw [← fold_zip] at h2 h3
  refine ⟨r.fn, _, r.assign, r.body, run_yield hr (by simpa using h1), trivial, fun c cs _ => ?_⟩
  generalize ((r.params.zip args).foldl (fun tmps (t, a) => tmps.setIfInBounds t a) r.tmps) = T at h2 h3
  let b0 : Frame := { (default : Frame) with fn := r.fn, kind := .normal, roundOf := some b }
  have hb0 : Frame.round b r.fn T r.assign r.body .normal = b0.atR { tmps := T, defers := [] } [.code r.assign, .beginRound, .code r.body] := by
    simp [Frame.round, Frame.atR, b0]
  have hok : OkB true b0 (c :: cs) := ⟨(fun h => by cases h), (fun h => by cases h)⟩
  obtain ⟨ol, hol, hall⟩ := allO_spec h
  rw [hasg, hP] at hol
  obtain ⟨o, hoo, hc1⟩ := exec_sound hcall hL hdraw hGP hP f r.assign hol hR (show FR P m φ ⟨tm', []⟩ ({ tmps := T, defers := [] } : Act) from ⟨h2, h3, rfl⟩) (b := b0) (k := [.beginRound, .code r.body]) (cs := c :: cs) hok
  obtain ⟨os, hos, hsub⟩ := hall o hoo
  obtain ⟨ex1, fr1, σ1⟩ := o
  obtain ⟨a1, w1, φ1, hle1, hR1, hF1, harr1⟩ := hc1
  unfold beginRoundA at hos
  split at hos
  · rename_i frx σx heq
    cases heq
    split at hos
    · rename_i pe1 tm1 ps1 asg1 body1 ho1
      obtain ⟨hBb1, r1, hr1, hst1, hrest⟩ := hR1.obj _ _ _ _ ho1 (hle1 _ _ ha)
      have hbr := run_beginRound (P := P) hr1 hst1
      have hR2 := hR1.setObj (o' := .loop .busy pe1 tm1 ps1 asg1 body1) (O := .loop { r1 with state := .busy }) ho1 rfl rfl (hle1 _ _ ha) hBb1 rfl (fun hs => ⟨hBb1, _, hs, rfl, hrest⟩)
      obtain ⟨ol2, hol2, hall2⟩ := allO_spec hos
      rw [hbody, hP] at hol2
      obtain ⟨o2, hoo2, a2, w2, φ2, hle2, hR3, hF2, harr2⟩ := exec_sound hcall hL hdraw hGP hP f r.body hol2 hR2 hF1 (b := b0) (k := []) (cs := c :: cs) hok
      obtain ⟨os2, hos2, hsub2⟩ := hall2 o2 hoo2
      obtain ⟨ex2, fr2, σ2⟩ := o2
      have hsteps1 : StepsR P b0 (lone (b0.atR { tmps := T, defers := [] } [.code r.assign, .beginRound, .code r.body]) (c :: cs) w) (lone (b0.atR a1 [.code r.body]) (c :: cs) (w1.putObj b (.loop { r1 with state := .busy }))) :=
        StepsIn.trans harr1 (stepsR_one (stepR_beginRound rfl hbr))
      unfold endRoundA at hos2
      split at hos2
      · rename_i pe3 tm3 ps3 asg3 body3 ho3
        cases hos2
        have ha3 := hle2 _ _ (hle1 _ _ ha)
        obtain ⟨hBb3, r3, hr3, hst3, hpe3, htm3, hrest3⟩ := hR3.obj _ _ _ _ ho3 ha3
        have fin : ∀ (jump : Option Code) (pn : Option Ex) (sn : LSt), jump = jumpC pn → sn.to = (if jump.isNone then LoopState.ready else .done) →
            (V.bool jump.isNone, { σ2 with objs := σ2.objs.set l (.loop sn pn tm3 ps3 asg3 body3) }) ∈ outs →
            ∃ w', (Instr.endRound b jump).run P w2 = .ok (.bool jump.isNone) w' ∧ CPosts G B w0 φ outs (.returned (.bool jump.isNone)) w' := by
          intro jump pn sn hj hs hmem
          refine ⟨_, run_endRound (P := P) jump hr3, _, hmem, φ2, _, rfl, hle1.trans hle2, ?_, rfl⟩
          exact hR3.setObj (O := .loop { r3 with state := if jump.isNone then .ready else .done, pending := jump }) ho3 rfl rfl ha3 hBb3 rfl (fun hss => ⟨hBb3, _, hss, hs.symm, hj, htm3, hrest3⟩)
        have harr := ArrivesIn.of_steps hsteps1 harr2
        rw [hb0]
        cases ex2 with
        | normal =>
          obtain ⟨w', hend, hp⟩ := fin none none .ready rfl rfl (hsub _ (hsub2 _ (List.mem_singleton.2 (by simp))))
          exact ⟨_, w', hp, StepsIn.trans harr (stepsR_one (b := b0) (stepR_round_end rfl rfl hend))⟩
        | exit id =>
          obtain ⟨w', hend, hp⟩ := fin (some (.exit id)) (some (.exit id)) .done rfl rfl (hsub _ (hsub2 _ (List.mem_singleton.2 (by simp))))
          obtain ⟨k1, hk, hs⟩ := harr.2 rfl rfl
          exact ⟨_, w', hp, StepsIn.trans hs (stepsR_one (b := b0) (stepR_round_exit rfl rfl hk hend))⟩
        | goto t =>
          obtain ⟨w', hend, hp⟩ := fin (some (.goto t)) (some (.goto t)) .done rfl rfl (hsub _ (hsub2 _ (List.mem_singleton.2 (by simp))))
          obtain ⟨k1, hk, hs⟩ := harr.2 rfl rfl
          exact ⟨_, w', hp, StepsIn.trans hs (stepsR_one (b := b0) (stepR_round_goto rfl rfl hk hend))⟩
        | ret =>
          obtain ⟨w', hend, hp⟩ := fin (some .ret) (some .ret) .done rfl rfl (hsub _ (hsub2 _ (List.mem_singleton.2 (by simp))))
          obtain ⟨k1, hs⟩ := harr.2 rfl
          exact ⟨_, w', hp, StepsIn.trans hs (stepsR_one (b := b0) (stepR_round_ret rfl rfl hend))⟩
      · cases hos2
    · cases hos
  · cases hos

theorem callF_sound (Γ : T AF) (M : List Memo) (L : List LMemo) (hLo : LoopsOk P G L) (hΓ : EnvOk P G Γ) (hM : ∀ m ∈ M, MemoOk P G m) (hGP : P.globals.size ≤ G) (hdraw : ∀ call, CallSound1 P G call → DrawSound P G call) : ∀ f,
    CallSound P G (callF Γ M L f) ∧ DefSound P G (defOnly Γ (callF Γ M L f)) ∧ (∀ g xs σ outs, callF Γ M L f (.fn g) xs σ = some outs → PlainN P G g xs σ outs ∧ ((∀ e, Γ.get g = some (.ext e) → e = .unlock) → DefN P G g xs σ outs))
  | 0 => by
    refine ⟨⟨fun _ _ _ _ h => by simp [callF] at h, fun _ _ _ _ h => by simp [callF] at h⟩, ⟨fun _ _ _ _ _ h => ?_, fun _ _ _ _ _ h => ?_⟩, fun _ _ _ _ h => by simp [callF] at h⟩
    · have := (defOnly_spec h).1; simp [callF] at this
    · have := (defOnly_spec h).1; simp [callF] at this
  | f + 1 => by
    obtain ⟨ih, ihD, _⟩ := callF_sound Γ M L hLo hΓ hM hGP hdraw f
    have body : ∀ g xs σ outs, callF Γ M L (f + 1) (.fn g) xs σ = some outs → PlainN P G g xs σ outs ∧ ((∀ e, Γ.get g = some (.ext e) → e = .unlock) → DefN P G g xs σ outs) := by
      intro g xs σ outs h
      simp only [callF] at h
      split at h
      · rename_i r hr
        cases h
        obtain ⟨h1, h2⟩ := memoGet_ok hM hr
        exact ⟨h1.N, fun _ => h2.N⟩
      split at h
      · rename_i e he
        split at h
        · rename_i r hr
          cases h
          obtain ⟨h1, h2⟩ := hΓ.ext g e xs σ _ _ he hr
          exact ⟨h1.N, fun hu => (h2 (hu e he)).N⟩
        · cases h
      · rename_i fn hfn
        obtain ⟨fn', hf, hcf⟩ := hΓ.code g fn hfn
        obtain ⟨hn, c, hb, hbody, hres⟩ := compFn_spec hcf
        obtain ⟨ol, hol, hall⟩ := allO_spec h
        rw [hbody] at hol
        have run : ∀ B w0 φ w (args : Array Value), w0.P = P → Rel G B w0 φ σ w → LR φ xs args.toList → ∀ (b : Frame) (cs : List Frame), OkB false b cs →
            ∃ a' w' todo, Steps P (lone (b.atR { tmps := args ++ Array.replicate (fn'.ntmps - args.size) Go.undef, defers := [] } [.code c]) cs w) (lone { b.atR a' todo with mode := .returning } cs w') ∧
              LeavesM P fn' a'.tmps (fun e w' => CPosts G B w0 φ outs e w') a'.defers .returning w' := by
          intro B w0 φ w args hP hR hL b cs hok
          obtain ⟨o, ho, a', w', φ', hle, hR', hF', harr⟩ := exec_sound ih hLo (hdraw _ ih.det) hGP hP f c hol hR (ofList_rel (n := fn'.ntmps) hL) (b := b) (k := []) (cs := cs) hok
          obtain ⟨os, hos, hsub⟩ := hall o ho
          obtain ⟨ex, fr1, σ1⟩ := o
          unfold leaveF at hos
          split at hos
          · rename_i hex
            split at hos
            · rename_i σ2 hrd
              split at hos
              · rename_i vs hvs
                cases hos
                have hleave : LeavesM P fn' a'.tmps (fun e w' => CPosts G B w0 φ outs e w') a'.defers .returning w' := by
                  refine leaves_sound ihD hP fr1.defers a'.defers hrd hF'.ds hR' ?_
                  intro φ2 w2 hle2 hR2
                  obtain ⟨x, hx, hvx⟩ := results_sound (hF'.mono hle2) hR2 hres hvs
                  exact ⟨x, hx, _, hsub _ (List.mem_singleton.2 rfl), φ2, x, rfl, hle.trans hle2, hR2, hvx⟩
                have hbr := hok.plain rfl
                rcases hex with hex | hex
                · simp only at hex
                  subst hex
                  exact ⟨a', w', [], Steps.trans (StepsR.steps' (b := b) harr) (.one (stepR_end hbr)), hleave⟩
                · simp only at hex
                  subst hex
                  obtain ⟨todo, hs⟩ := harr.1 hbr
                  exact ⟨a', w', todo, StepsR.steps' (b := b) hs, hleave⟩
              · cases hos
            · cases hos
          · cases hos
        refine ⟨?_, fun _ => ⟨fun args w => callFunc_enter hf hn hb args w, ?_⟩⟩
        · intro B w0 φ w args hP hR hL
          refine .inl ⟨callFunc_enter hf hn hb args w, ?_⟩
          intro cs
          let b : Frame := { (default : Frame) with fn := g, kind := .normal, roundOf := none }
          have henter : Frame.enter P g args .normal = b.atR { tmps := args ++ Array.replicate (fn'.ntmps - args.size) Go.undef, defers := [] } [.code c] := by
            simp [Frame.enter, Frame.atR, hf, hb, b]
          obtain ⟨a', w', todo, hs, hleave⟩ := run B w0 φ w args hP hR hL b cs ⟨by intro _ fr hk; have : fr.kind = .normal := hk; simp [tryRecover, this], fun _ => rfl⟩
          rw [← henter] at hs
          obtain ⟨e', w'', fr', hR', hs', hfn', hl'⟩ := leavesM_steps a'.defers .returning w' { b.atR a' todo with mode := .returning } cs rfl rfl rfl hf rfl hleave
          exact ⟨e', w'', fr', hR', Comes.of_steps hs hs', hfn', hl'⟩
        · intro B w0 φ w args hP hR hL c0 cs hu
          let b : Frame := { (default : Frame) with fn := g, kind := .deferred, roundOf := none }
          have henter : Frame.enter P g args .deferred = b.atR { tmps := args ++ Array.replicate (fn'.ntmps - args.size) Go.undef, defers := [] } [.code c] := by
            simp [Frame.enter, Frame.atR, hf, hb, b]
          obtain ⟨a', w', todo, hs, hleave⟩ := run B w0 φ w args hP hR hL b (c0 :: cs) ⟨by intro _ fr hk; have : fr.kind = .deferred := hk; simp [tryRecover, this, hu], fun _ => rfl⟩
          rw [← henter] at hs
          obtain ⟨e', w'', fr', hR', hs', hk', hg'⟩ := leavesM_stepsD a'.defers .returning w' { b.atR a' todo with mode := .returning } (c0 :: cs) rfl rfl rfl hf rfl hleave
          have hc0 : ({ c0 with mode := .returning } : Frame) = c0 := by rw [← hu]
          exact ⟨e', .returning, w'', fr', ⟨rfl, hR'⟩, by rw [hc0]; exact Comes.of_steps hs hs', hk', hg'⟩
      · cases h
    refine ⟨⟨fun g xs σ outs h => (body g xs σ outs h).1, ?_⟩, ⟨?_, ?_⟩, body⟩
    · intro l xs σ outs h B w0 φ w args b n hP ha hR hA
      simp only [callF] at h
      split at h
      · rename_i pe tm ps asg bd ho
        split at h
        · rename_i tm' hpa
          exact round_sound ih hLo (hdraw _ ih.det) hGP hP ho hpa h ha hR hA
        · cases h
      · cases h
    · intro g xs σ v σ' h
      obtain ⟨h1, h2⟩ := defOnly_spec h
      exact ((body g xs σ _ h1).2 h2).1
    · intro g xs σ v σ' h B w0 φ w args hP hR hL
      obtain ⟨h1, h2⟩ := defOnly_spec h
      refine (((body g xs σ _ h1).2 h2).2 B w0 φ w args hP hR hL).mono ?_
      rintro e u w' ⟨h3, o, ho, h4⟩
      simp at ho; subst ho
      exact ⟨h3, h4⟩
theorem memo_ok (Γ : T AF) (M : List Memo) (L : List LMemo) (hLo : LoopsOk P G L) (hΓ : EnvOk P G Γ) (hM : ∀ m ∈ M, MemoOk P G m) (hGP : P.globals.size ≤ G) (hdraw : ∀ call, CallSound1 P G call → DrawSound P G call) {f : Nat} {m : Memo} {fn : AFunc} (hg : Γ.get m.g = some (.code fn)) {outs : List (V × St)} {dead : List Nat}
    (h : callF Γ M L f (.fn m.g) m.xs m.σ = some outs) (hall : ∀ o ∈ outs, o.1 = m.v ∧ ({ o.2 with objs := killAll dead o.2.objs } : St) = m.σ') : MemoOk P G m := by
  obtain ⟨h1, h2⟩ := (callF_sound Γ M L hLo hΓ hM hGP hdraw f).2.2 _ _ _ _ h
  have h2 := h2 (fun e he => by rw [hg] at he; cases he)
  have conv : ∀ {B : Nat} {w0 : Base} {φ : Phi} {e : Ending} {w' : World}, CPosts G B w0 φ outs e w' → CPost G B w0 φ m.σ' m.v e w' := by
    rintro B w0 φ e w' ⟨o, ho, φ', x, rfl, h1, h2, h3⟩
    obtain ⟨e1, e2⟩ := hall o ho
    exact ⟨φ', x, rfl, h1, e2 ▸ h2.kill dead, e1 ▸ h3⟩
  refine ⟨?_, h2.1, ?_⟩
  · intro B w0 φ w args hP hR hL
    rcases h1 B w0 φ w args hP hR hL with ⟨p1, p2⟩ | ⟨x, w', p1, p2⟩
    · exact .inl ⟨p1, p2.mono (fun e w' => conv)⟩
    · obtain ⟨φ', y, hy, q1, q2, q3⟩ := conv p2
      cases hy
      exact .inr ⟨x, w', φ', p1, q1, q2, q3⟩
  · intro B w0 φ w args hP hR hL
    exact (h2.2 B w0 φ w args hP hR hL).mono (fun e u w' ⟨h3, h4⟩ => ⟨h3, conv h4⟩)
end AM
