import Derived.Test.YtdnefddmghhgpaaGreatDoorA6Ops6
import Derived.Laws.IdiomStrings
import Derived.Maps.RangeRun
namespace AM
open Go Go.RowKit
set_option linter.unusedVariables false
set_option linter.unusedSimpArgs false
variable {P : Program} {φ : Phi} {tm : T V} {a : Act} {w : World} {w0 : Base} {σ σ' : St} {G B : Nat}

/-- the operations of the second kind -/
def isX : AOp → Bool
  | .rangeM _ | .nextM _ | .entryM _ | .toStr _ | .strish _ | .toBytes _ | .sBin .. | .slice3 .. => true
  | _ => false

theorem compX_isX {o : Oper} {op : AOp} (h : compX P o = some op) : isX op = true := by
  unfold compX at h
  repeat' (split at h)
  all_goals (first | (cases h; done) | (cases h; rfl))

theorem compX_op {o : Oper} {op : AOp} (h : compX P o = some op) : (∀ c, o.op ≠ .call c) ∧ (∀ c, o.op ≠ .defer c) ∧ ∀ t, o.op ≠ .alloc t := by
  unfold compX at h
  refine ⟨fun c hc => ?_, fun c hc => ?_, fun c hc => ?_⟩ <;> rw [hc] at h <;> cases h

theorem compOp_spec {o : Oper} {op : AOp} (h : compOp P o = some op) : compOp0 P o = some op ∨ compX P o = some op := by
  unfold compOp at h
  split at h
  · rename_i a ha; cases h; exact .inl ha
  · exact .inr h

theorem isByte_spec {e : TypeId} (h : isByte P e = true) : P.underlying e = some (.int .u8) := by
  unfold isByte at h
  split at h
  · assumption
  · cases h

theorem findB_spec {b : Nat} : ∀ {bs : List Nat} {es : List (V × V)} {M : List MapEntry} {k v : V}, M.map (·.born) = bs → ER φ es M → findB b bs es = some (k, v) → ∃ e, M.find? (·.born == b) = some e ∧ VR φ k e.key ∧ VR φ v e.val
  | [], es, M, k, v, hb, hE, h => by simp [findB] at h
  | c :: r, [], M, k, v, hb, hE, h => by simp [findB] at h
  | c :: r, x :: s, [], k, v, hb, hE, h => by simp at hb
  | c :: r, x :: s, e :: M, k, v, hb, hE, h => by
    simp at hb
    obtain ⟨hb1, hb2⟩ := hb
    obtain ⟨x1, x2⟩ := x
    obtain ⟨e', he', h1, h2⟩ := hE.2 0 x1 x2 rfl
    simp at he'; subst he'
    simp only [findB] at h
    split at h
    · rename_i hcb
      simp at h; obtain ⟨rfl, rfl⟩ := h
      refine ⟨e, ?_, h1, h2⟩
      rw [List.find?_cons_of_pos (by simp [hb1, hcb])]
    · rename_i hcb
      obtain ⟨e2, h3, h4⟩ := findB_spec hb2 ⟨by have := hE.1; simpa using this, fun i k v hi => by simpa using hE.2 (i + 1) k v (by simpa using hi)⟩ h
      refine ⟨e2, ?_, h4⟩
      rw [List.find?_cons_of_neg (by simp [hb1, hcb])]; exact h3

/-! ### strings -/
theorem sameN_eq' : ∀ (x y : List Nat), sameN x y = true → x = y
  | [], y, h => by cases y <;> simp_all [sameN]
  | a :: r, y, h => by
    cases y with
    | nil => simp [sameN] at h
    | cons c s =>
      simp only [sameN, Bool.and_eq_true, beq_iff_eq] at h
      rw [h.1, sameN_eq' r s h.2]
theorem sameN_refl : ∀ (x : List Nat), sameN x x = true
  | [] => rfl
  | a :: r => by simp [sameN, sameN_refl r]

theorem bytes_list (x : ByteArray) : x.toList = x.data.toList := by
  have key : ∀ (n i : Nat) (acc : List UInt8), x.size - i = n → ByteArray.toList.loop x i acc = acc.reverse ++ x.data.toList.drop i := by
    intro n
    induction n with
    | zero =>
      intro i acc h
      unfold ByteArray.toList.loop
      rw [if_neg (by omega)]
      have : x.data.toList.length ≤ i := by simp; have : x.size = x.data.size := rfl; omega
      rw [List.drop_eq_nil_of_le this]; simp
    | succ n ih =>
      intro i acc h
      unfold ByteArray.toList.loop
      have hi : i < x.size := by omega
      rw [if_pos hi, ih (i + 1) _ (by omega)]
      have hl : i < x.data.toList.length := by simpa using hi
      rw [List.drop_eq_getElem_cons hl]
      have : x.get! i = x.data.toList[i] := by
        have hd : i < x.data.size := hi
        simp only [ByteArray.get!, getElem!_pos x.data i hd, Array.getElem_toList]
      rw [this]; simp
  have := key x.size 0 [] (by omega)
  unfold ByteArray.toList
  rw [this]; simp

theorem bytes_eq_iff (x y : ByteArray) : (x.toList == y.toList) = sameN (x.data.toList.map (·.toNat)) (y.data.toList.map (·.toNat)) := by
  rw [bytes_list, bytes_list]
  have inj : ∀ (a b : List UInt8), a.map (·.toNat) = b.map (·.toNat) → a = b := by
    intro a
    induction a with
    | nil => intro b h; cases b <;> simp_all
    | cons x r ih =>
      intro b h
      cases b with
      | nil => simp at h
      | cons y s =>
        simp only [List.map_cons, List.cons.injEq] at h
        rw [UInt8.toNat_inj.1 h.1, ih s h.2]
  cases h : sameN (x.data.toList.map (·.toNat)) (y.data.toList.map (·.toNat)) with
  | true => rw [inj _ _ (sameN_eq' _ _ h)]; simp
  | false =>
    rw [beq_eq_false_iff_ne]
    intro e
    rw [e, sameN_refl] at h; cases h

theorem strBin_run {op : BinOp} {t : TypeId} {x y : List Nat} {X Y : ByteArray} {v : V} (hv : strBin (bn op) x y = some v) (hx : X.data.toList.map (·.toNat) = x) (hy : Y.data.toList.map (·.toNat) = y) (w : World) :
    ∃ Z, (Op.stringOp op X Y).run P w = .ok Z w ∧ VR φ v Z := by
  subst hx; subst hy
  cases op <;> simp only [bn, strBin] at hv
  case add =>
    split at hv
    · rename_i h
      cases hv
      simp only [List.length_map, Array.length_toList] at h
      have h1 : X.data.size = X.size := rfl
      have h2 : Y.data.size = Y.size := rfl
      refine ⟨.string (X ++ Y), ?_, X ++ Y, rfl, by simp⟩
      unfold Op.stringOp
      simp only
      rw [if_neg (by simp [IntKind.max, IntKind.bits]; omega)]
      rfl
    · cases hv
  case eql => cases hv; exact ⟨.bool _, rfl, by simp only [VR, bytes_eq_iff]⟩
  case neq => cases hv; exact ⟨.bool _, rfl, by simp only [VR, bytes_eq_iff]⟩
  all_goals cases hv

theorem bytesV_spec : ∀ {vs : List V} {s : List Nat} {xs : List Value}, bytesV vs = some s → LR φ vs xs → ∃ l : List UInt8, xs = (l.map fun b => Value.int .u8 b.toNat) ∧ l.map (·.toNat) = s
  | [], s, xs, h, hL => by simp [bytesV] at h; subst h; cases hL; exact ⟨[], rfl, rfl⟩
  | v :: r, s, xs, h, hL => by
    obtain ⟨x, q, rfl, hx, hq⟩ := hL
    cases v with
    | int k n =>
      cases k <;> simp only [bytesV] at h <;> try (cases h; done)
      split at h
      · rename_i hn
        split at h
        · rename_i s' hs
          cases h
          obtain ⟨l, rfl, hl⟩ := bytesV_spec hs hq
          have hx : x = .int .u8 n := hx
          subst hx
          refine ⟨UInt8.ofNat n.toNat :: l, ?_, ?_⟩
          · have : ((UInt8.ofNat n.toNat).toNat : Int) = n := by simp; omega
            rw [List.map_cons, this]
          · have : (UInt8.ofNat n.toNat).toNat = n.toNat := by simp; omega
            rw [List.map_cons, this, hl]
        · cases h
      · cases h
    | _ => simp [bytesV] at h

theorem boundB_run {x : V} {X : Value} {y m : Nat} (h : boundB x y = some m) (hx : VR φ x X) (y' : Nat) (hy : y ≤ y') (c : BoundsCode) (w : World) : (Instr.sliceBound X y' c).run P w = .ok m w ∧ m ≤ y := by
  unfold boundB at h
  split at h
  · rename_i k i
    split at h
    · rename_i hi
      cases h
      have hx : X = .int k i := hx
      subst hx
      refine ⟨?_, by omega⟩
      simp only [Instr.sliceBound, asIntOf, Sem.run_bind, Sem.run_pure, Result.andThen_ok]
      rw [if_pos (by omega)]; rfl
    · cases h
  · cases h

theorem pureX {o : Oper} {op : AOp} {v : V} (hc : compX P o = some op) (hp : isPure op = true) (hv : pureOp op tm = some v) (hG : GR P φ) (hT : TR φ tm a op.tmps) : Tells P a o φ v w := by
  obtain ⟨dst, op', type, pos, after, guard⟩ := o
  unfold compX at hc
  split at hc
  · split at hc <;> cases hc; simp [isPure] at hp
  · split at hc <;> cases hc; simp [isPure] at hp
  · split at hc <;> cases hc; simp [isPure] at hp
  · repeat' (split at hc)
    all_goals (first | (cases hc; done) | (cases hc; simp [isPure] at hp))
  · rename_i bop t x y yt heq
    simp only at heq
    subst heq
    split at hc
    · rename_i x' y' hu h1 h2
      cases hc
      have r1 := opd_rel (tm := tm) (a := a) hG h1 hT.left
      have r2 := opd_rel (tm := tm) (a := a) hG h2 hT.right
      simp only [pureOp] at hv
      split at hv
      · rename_i s1 s2 e1 e2
        rw [e1] at r1; rw [e2] at r2
        obtain ⟨X, hX, hx⟩ := r1
        obtain ⟨Y, hY, hy⟩ := r2
        obtain ⟨Z, hZ, hr⟩ := strBin_run (P := P) (φ := φ) (t := t) hv hx hy w
        refine ⟨Z, ?_, hr⟩
        have hg : (eqGuard bop t x y (a.eval x) (a.eval y)).run P w = .ok () w := eqGuard_plain bop t x y _ _ (by rw [hX]; simp) (by rw [hX]; simp)
        rw [hX, hY] at hg
        simp [execOp, hg, binOp, hX, hY, hZ]
      · cases hv
    · cases hc
  · rename_i t x lo hi mx heq
    simp only at heq
    subst heq
    split at hc
    · rename_i e x' lo' hi' mx' hu h1 h2 h3 h4
      split at hc
      · rename_i s hs
        cases hc
        have r := opd_rel (tm := tm) (a := a) hG h1 hT.left.left.left
        have rlo := opd_rel (tm := tm) (a := a) hG h2 hT.left.left.right
        have rhi := opd_rel (tm := tm) (a := a) hG h3 hT.left.right
        have rmx := opd_rel (tm := tm) (a := a) hG h4 hT.right
        simp only [pureOp] at hv
        split at hv
        · rename_i id off len e' e1
          rw [e1] at r
          split at hv
          · rename_i he
            subst he
            split at hv
            · cases hv
            · rename_i m hm
              split at hv
              · cases hv
              · rename_i h hh
                split at hv
                · cases hv
                · rename_i l hl
                  cases hv
                  obtain ⟨b, n, o', cap, hb, hx, hlc, hfit, ho⟩ := r
                  obtain ⟨k1, q1⟩ := boundB_run (P := P) hm rmx cap hlc .slice3Acap w
                  obtain ⟨k2, q2⟩ := boundB_run (P := P) hh rhi m (Nat.le_refl _) .slice3B w
                  obtain ⟨k3, q3⟩ := boundB_run (P := P) hl rlo h (Nat.le_refl _) .slice3C w
                  have hrun : (Instr.sliceBounds true len cap (some (a.eval lo)) (some (a.eval hi)) (some (a.eval mx))).run P w = .ok (l, h, m) w := by
                    simp only [Instr.sliceBounds, Sem.run_bind, if_true, k1, Result.andThen_ok, k2, Option.isSome_some, k3, Sem.run_pure]
                  by_cases hml : m = l
                  · subst hml
                    refine ⟨.slice (some ⟨b, o', none⟩) (h - m) (m - m), ?_, b, n, o', m - m, hb, rfl, by omega, ?_, ?_⟩
                    · simp [execOp, Instr.sliceAt, Instr.slice, run_underlying' hu, hx, hrun, run_sizeOf' hs]
                    · have : m - m = 0 := by omega
                      rw [this]; omega
                    · right; omega
                  · refine ⟨.slice (some ⟨b, o' + l * e', none⟩) (h - l) (m - l), ?_, b, n, o' + l * e', m - l, hb, rfl, by omega, ?_, ?_⟩
                    · simp [execOp, Instr.sliceAt, Instr.slice, run_underlying' hu, hx, hrun, run_sizeOf' hs, hml, addr_add]
                    · have h1 : l * e' + (m - l) * e' = m * e' := by rw [← Nat.add_mul]; congr 1; omega
                      have h2 : m * e' ≤ cap * e' := Nat.mul_le_mul_right _ (by omega)
                      omega
                    · left
                      rcases ho with rfl | ⟨rfl, rfl⟩
                      · rfl
                      · omega
          · cases hv
        · cases hv
      · cases hc
    · cases hc
  · cases hc

theorem readX {o : Oper} {op : AOp} {v : V} (hc : compX P o = some op) (hp : isRead op = true) (hv : readOp op tm σ = some v) (hG : GR P φ) (hT : TR φ tm a op.tmps) (hR : Rel G B w0 φ σ w) : Tells P a o φ v w := by
  obtain ⟨dst, op', type, pos, after, guard⟩ := o
  unfold compX at hc
  split at hc
  · split at hc <;> cases hc; simp [isRead] at hp
  · rename_i x heq
    simp only at heq
    subst heq
    split at hc
    · rename_i y hy
      cases hc
      have r := opd_rel (tm := tm) (a := a) hG hy hT
      simp only [readOp] at hv
      split at hv
      · rename_i q e0
        rw [e0] at r
        obtain ⟨b, n, hb, hx⟩ := r
        split at hv
        · rename_i m since seen last ho
          split at hv
          · rename_i es bs ck hmo
            obtain ⟨hB, rb, kk, e', hm, hh, hs⟩ := hR.obj _ _ b n ho hb
            obtain ⟨hBm, M, hM, hER, hbs⟩ := hR.mapObj hmo hm
            split at hv
            · rename_i bb hbb
              split at hv
              · rename_i hck
                subst hck
                split at hv
                · rename_i k u hf
                  cases hv
                  obtain ⟨e, he, h1, h2⟩ := findB_spec hbs hER hf
                  refine ⟨.tuple #[e.key, e.val], ?_, _, rfl, LR.cons h1 (LR.cons h2 LR.nil)⟩
                  have hback : e'.back? = some bb := by rw [← hs] at hbb; simpa using hbb
                  have hfind : M.find? (·.born == bb) = some e := by rw [← Array.find?_toList]; exact he
                  have hrun : (Instr.entry (.pointer (some ⟨b, 0, none⟩))).run P w = .ok (.tuple #[e.key, e.val]) w := by
                    simp only [Instr.entry, getObj, Sem.run_bind, Sem.run, hh, hM, Result.andThen, hback, bne_self_eq_false, Bool.false_eq_true, if_false, hfind]
                    rfl
                  simp [execOp, hx, hrun]
                · cases hv
              · cases hv
            · cases hv
          · cases hv
        · cases hv
      · cases hv
    · cases hc
  · split at hc <;> cases hc; simp [isRead] at hp
  · rename_i s d x heq
    simp only at heq
    subst heq
    split at hc
    · rename_i e x' hs hd h1
      split at hc
      · rename_i hbt
        cases hc
        have he := isByte_spec hbt
        have r := opd_rel (tm := tm) (a := a) hG h1 hT
        simp only [readOp] at hv
        split at hv
        · rename_i l0 e0 e1
          cases hv
          rw [e1] at r
          obtain ⟨h0, hx⟩ := r
          refine ⟨.string .empty, ?_, .empty, rfl, rfl⟩
          simp [execOp, hx, run_convert_bytes_string (P := P) w s d e none 0 0 hs he hd, Conv.bytesToString]
        · rename_i id off len e0 e1
          rw [e1] at r
          obtain ⟨b, n, o', cap, hb, hx, hlc, hfit, ho⟩ := r
          have key : ∀ (l : List UInt8), len = l.length → (loadCells ⟨b, o', none⟩ len).run P w = .ok (l.map fun b => Value.int .u8 b.toNat).toArray w →
              (execOp a.eval ⟨dst, .convert s d x, type, pos, after, guard⟩).run P w = .ok (.value (.string ⟨l.toArray⟩)) w := by
            intro l hl hrun
            have h2 := run_bytesToString (P := P) w ⟨b, o', none⟩ len cap (l.map fun b => (b.toNat : Int)) (by rw [hrun]; simp [Function.comp_def])
            rw [foldl_push_byteCells] at h2
            have h3 : (⟨ByteArray.empty.data ++ l.toArray⟩ : ByteArray) = ⟨l.toArray⟩ := by
              have h4 : ByteArray.empty.data = #[] := rfl
              rw [h4, Array.empty_append]
            rw [h3] at h2
            simp [execOp, hx, run_convert_bytes_string (P := P) w s d e _ _ _ hs he hd, h2]
          split at hv
          · rename_i hl
            cases hv
            refine ⟨.string ⟨#[]⟩, ?_, ⟨#[]⟩, rfl, rfl⟩
            have := key [] (by simpa using hl) (by rw [hl]; simp [loadCells, loadCellsFrom])
            simpa using this
          · rename_i hl
            split at hv
            · rename_i vs hvs
              split at hv
              · rename_i str hstr
                cases hv
                have ho' : o' = off := by rcases ho with h | ⟨h, _⟩; exact h; exact (hl h).elim
                subst ho'
                obtain ⟨xs, hr, hlen, hcell⟩ := hR.load hvs hb
                obtain ⟨l, rfl, hls⟩ := bytesV_spec hstr hr
                have hld := run_loadCells_list (P := P) w ⟨b, o', none⟩ _ hcell
                simp only [List.length_map] at hlen hld
                rw [hlen] at hld
                exact ⟨.string ⟨l.toArray⟩, key l hlen.symm hld, ⟨l.toArray⟩, rfl, by simpa using hls⟩
              · cases hv
            · cases hv
        · cases hv
      · cases hc
    · split at hc <;> cases hc; simp [isRead] at hp
    · split at hc <;> cases hc; simp [isRead] at hp
    · cases hc
  · split at hc <;> cases hc; simp [isRead] at hp
  · repeat' (split at hc)
    all_goals (first | (cases hc; done) | (cases hc; simp [isRead] at hp))
  · cases hc

theorem modify_set {A : Array Go.Obj} {b : Nat} {o : Go.Obj} (f : Go.Obj → Go.Obj) (h : A[b]? = some o) : A.modify b f = A.setIfInBounds b (f o) := by
  apply Array.ext
  · simp
  · intro i h1 h2
    simp only [Array.getElem_modify, Array.getElem_setIfInBounds]
    by_cases c : b = i
    · subst c
      have h3 : b < A.size := by simpa using h1
      have : A[b]'h3 = o := by
        rw [Array.getElem?_eq_getElem h3] at h; simpa using h
      simp [this]
    · have h3 : i < A.size := by simpa using h1
      rw [Array.getElem_setIfInBounds_ne h3 c]; simp [c]

theorem writeX {o : Oper} {op : AOp} {v : V} (hc : compX P o = some op) (hw : isWrite op = true) (hv : writeOp op tm σ = some (v, σ')) (hG : GR P φ) (hT : TR φ tm a op.tmps) (hR : Rel G B w0 φ σ w) : Does P a o G B w0 φ σ' v w := by
  obtain ⟨dst, op', type, pos, after, guard⟩ := o
  unfold Does
  unfold compX at hc
  split at hc
  · rename_i t x heq
    simp only at heq
    subst heq
    split at hc
    · rename_i kt e x' hu h1
      cases hc
      have r1 := opd_rel (tm := tm) (a := a) hG h1 hT
      simp only [writeOp] at hv
      split at hv
      · rename_i e0
        rw [e0] at r1
        have r1 : a.eval x = .map none := r1
        simp only [Option.some.injEq, Prod.mk.injEq] at hv
        obtain ⟨rfl, rfl⟩ := hv
        have hnew := hR.new (.iter none 0 [] 0) (.mapIter none 0 #[] 0) 0 rfl (.inr trivial) ⟨hR.B_le, 0, #[], 0, heap_alloc_new w _⟩
        refine ⟨_, _, _, .inl ?_, hnew.2, hnew.1, w.heap.size, 0, Phi.upd_same _ _ _, rfl⟩
        simp [execOp, Instr.range, run_underlying' hu, r1]
      · rename_i q e0
        rw [e0] at r1
        obtain ⟨b, n, hb, hm⟩ := r1
        split at hv
        · rename_i es bs clock ho
          simp only [Option.some.injEq, Prod.mk.injEq] at hv
          obtain ⟨rfl, rfl⟩ := hv
          obtain ⟨hB, M, hM, hER, hbs⟩ := hR.mapObj ho hb
          have hnn := hR.next_none
          have hnew := hR.new (.iter (some q) clock [] clock) (.mapIter (some b) clock #[] clock) 0 rfl (.inr trivial) ⟨hR.B_le, b, n, #[], φ.le_upd _ hnn _ _ hb, heap_alloc_new w _, rfl⟩
          refine ⟨_, _, _, .inl ?_, hnew.2, hnew.1, w.heap.size, 0, Phi.upd_same _ _ _, rfl⟩
          simp [execOp, Instr.range, run_underlying' hu, hm, run_getObj_map hM]
        · cases hv
      · cases hv
    · cases hc
  · split at hc <;> cases hc; simp [isWrite] at hw
  · split at hc <;> cases hc; simp [isWrite] at hw
  · rename_i s d x heq
    simp only at heq
    subst heq
    split at hc
    · split at hc <;> cases hc; simp [isWrite] at hw
    · rename_i e0 e x' hs hd h1
      split at hc
      · rename_i hcond
        obtain ⟨rfl, hbt⟩ := hcond
        cases hc
        have he := isByte_spec hbt
        have r := opd_rel (tm := tm) (a := a) hG h1 hT
        simp only [writeOp] at hv
        split at hv
        · rename_i id off len e' e1
          have r0 := r
          rw [e1] at r
          obtain ⟨b, n, o', cap, hb, hx, hlc, hfit, ho⟩ := r
          split at hv
          · rename_i nn z t hob
            simp only [Option.some.injEq, Prod.mk.injEq] at hv
            obtain ⟨rfl, rfl⟩ := hv
            obtain ⟨C, E, fz, h1', h2, h3, h4, h5⟩ := hR.obj _ _ b n hob hb
            obtain ⟨rfl, hBb⟩ := h3 rfl
            have hset := hR.setObj (o' := .cells true 0 nn z t) (O := .cells C E (C.size, C.size + 1)) hob rfl rfl hb hBb rfl (fun hs' => ⟨C, E, _, hs', h2, (fun h => by cases h), h4, h5⟩)
            refine ⟨a.eval x, _, φ, .inl ?_, Phi.le.refl _, hset, by rw [← e1]; exact r0⟩
            have hsh : w.shape? b = some (E, C.size) := by unfold World.shape?; rw [h1']
            have hfr : w.freeze ⟨b, C.size, none⟩ 1 = { w with heap := w.heap.setIfInBounds b (.cells C E (C.size, C.size + 1)) } := by
              unfold World.freeze
              rw [if_neg (by decide)]
              congr 1
              rw [modify_set _ h1']
              rfl
            simp [execOp, convert, run_underlying' hd, run_underlying' he, hx, markStringish, hsh, hfr]
          · cases hv
        · cases hv
      · cases hc
    · rename_i e x' hs hd h1
      split at hc
      · rename_i hbt
        cases hc
        have he := isByte_spec hbt
        have r := opd_rel (tm := tm) (a := a) hG h1 hT
        simp only [writeOp] at hv
        split at hv
        · rename_i str e1
          simp only [Option.some.injEq, Prod.mk.injEq] at hv
          obtain ⟨rfl, rfl⟩ := hv
          rw [e1] at r
          obtain ⟨bs, hx, hbs⟩ := r
          have hrun := run_bytes_of_string (P := P) w s d e bs hs hd he
          have hRd := hR.drew
          have hsz : bs.size = bs.data.size := rfl
          have hlen : str.length = bs.size := by rw [← hbs, List.length_map, Array.length_toList]; rfl
          have hge : bs.size ≤ grownCap w bs.size 0 e := grownCap_ge _ _ _ _
          generalize grownCap w bs.size 0 e = cap at hrun hge
          have hnew := hRd.new (.cells true 0 str.length [] (ofList (str.map fun b => V.int .u8 (Int.ofNat b)))) (.cells (bytesRow bs cap) e ((bytesRow bs cap).size, (bytesRow bs cap).size + 1)) (bytesRow bs cap).size rfl (.inr trivial) (by
            refine ⟨bytesRow bs cap, e, _, heap_alloc_new _ _, rfl, (fun h => by cases h), ?_, ?_⟩
            · simp [bytesRow]; omega
            · intro i v hi
              have h2 : cellOf (str.map fun b => V.int .u8 (Int.ofNat b)).length [] (ofList (str.map fun b => V.int .u8 (Int.ofNat b))) i = some v := by simpa using hi
              rw [cellOf_ofList] at h2
              rw [List.getElem?_map] at h2
              have hilt : i < bs.data.size := by
                rcases Nat.lt_or_ge i str.length with q | q
                · omega
                · rw [List.getElem?_eq_none q] at h2; cases h2
              rw [← hbs, List.getElem?_map] at h2
              have h3 : bs.data.toList[i]? = some (bs.data[i]'hilt) := by rw [Array.getElem?_toList, Array.getElem?_eq_getElem hilt]
              rw [h3] at h2
              simp at h2; subst h2
              refine ⟨.int .u8 bs.data[i].toNat, ?_, rfl⟩
              unfold bytesRow
              rw [Array.getElem?_append_left (by simpa using hilt), Array.getElem?_map, Array.getElem?_eq_getElem hilt]; rfl)
          refine ⟨.slice (some ⟨w.heap.size, 0, none⟩) bs.size cap, _, _, .inl ?_, hnew.2, hnew.1, w.heap.size, (bytesRow bs cap).size, 0, cap, Phi.upd_same _ _ _, ?_, by omega, ?_, .inl rfl⟩
          · simp only [execOp, hx, Sem.run_bind, hrun, Result.andThen_ok]
            rfl
          · rw [hlen]
          · simp [bytesRow]; omega
        · cases hv
      · cases hc
    · cases hc
  · split at hc <;> cases hc; simp [isWrite] at hw
  · repeat' (split at hc)
    all_goals (first | (cases hc; done) | (cases hc; simp [isWrite] at hw))
  · cases hc

theorem pure_sound {o : Oper} {op : AOp} {v : V} (hc : compOp P o = some op) (hp : isPure op = true) (hv : pureOp op tm = some v) (hG : GR P φ) (hT : TR φ tm a op.tmps) : Tells P a o φ v w :=
  (compOp_spec hc).elim (fun h => pure_sound0 h hp hv hG hT) (fun h => pureX h hp hv hG hT)
theorem read_sound {o : Oper} {op : AOp} {v : V} (hc : compOp P o = some op) (hp : isRead op = true) (hv : readOp op tm σ = some v) (hG : GR P φ) (hT : TR φ tm a op.tmps) (hR : Rel G B w0 φ σ w) : Tells P a o φ v w :=
  (compOp_spec hc).elim (fun h => read_sound0 h hp hv hG hT hR) (fun h => readX h hp hv hG hT hR)
theorem write_sound {o : Oper} {op : AOp} {v : V} (hc : compOp P o = some op) (hw : isWrite op = true) (hv : writeOp op tm σ = some (v, σ')) (hG : GR P φ) (hT : TR φ tm a op.tmps) (hR : Rel G B w0 φ σ w) : Does P a o G B w0 φ σ' v w :=
  (compOp_spec hc).elim (fun h => write_sound0 h hw hv hG hT hR) (fun h => writeX h hw hv hG hT hR)
end AM
