import Derived.Test.YtdnefddmghhgpaaGreatDoorMaEnv
import Derived.Test.YtdnefddmghhgpaaGreatDoorRows
import Derived.WalkKit
import Derived.ProofKit
import Derived.LaidMore
import Derived.OpenShut
import Derived.Stop.Joined
import Derived.ChangeOld
import Derived.Below
namespace Go.Proofs.YtdnefddmghhgpaaGreatDoor
open Go.ChangeShapes Go.WideShapes Go.ChangeAt Go.WideMaps Go.WideElems Go.RowKit
open AM
set_option linter.unusedVariables false

theorem own : ownKnob Tryz.prog.godebug = none := by kernel_rfl
theorem gWidths : Tryz.prog.globalNamed "croft/slab.widths" = some 1 := by kernel_rfl
theorem tWidths : (Tryz.prog.globals[1]?).map (·.type) = some 403 := by kernel_rfl
theorem gLooks : Tryz.prog.globalNamed "croft/march.looks" = some 0 := by kernel_rfl
theorem tLooks : (Tryz.prog.globals[0]?).map (·.type) = some 229 := by kernel_rfl
def laidW : List (String × DataW Unit) := [("croft/slab.widths", Rows.laid_croft_slab_widths), ("croft/march.looks", Rows.laid_croft_march_looks)]
theorem laidW_plain : (laidW.filter fun x => x.2.handleName?.isNone) = [("croft/slab.widths", Rows.laid_croft_slab_widths)] := by kernel_rfl
theorem laidW_held : (laidW.filter fun x => x.2.handleName?.isSome) = [("croft/march.looks", Rows.laid_croft_march_looks)] := by kernel_rfl

def looksD : DataW Unit := match (Rows.laid_croft_march_looks : DataW Unit) with
  | .iface _ d => d
  | d => d
theorem looksD_eq : (Rows.laid_croft_march_looks : DataW Unit) = .iface "func table" looksD := by kernel_rfl

theorem door_met (os : Os) (args : Array Value) : laidMetH Tryz.prog laidW ((World.doorLaid Tryz.prog 19 os).forCall (fun _ _ => 0) ⟨#[], args, []⟩).memory :=
  laidMetH_of_parts3 (fuel := 8) (laidMet_of_run' 8 (by kernel_rfl) (by kernel_rfl)) (by kernel_rfl) (by kernel_rfl)

theorem laid_two {W : World} (h : laidMetH Tryz.prog laidW W) : laidMet Tryz.prog [("croft/slab.widths", Rows.laid_croft_slab_widths)] W ∧ funcsAt Tryz.prog W "croft/march.looks" looksD := by
  refine ⟨?_, h.funcs (n := "croft/march.looks") (d := looksD) (by rw [← looksD_eq]; exact List.mem_cons_of_mem _ (List.mem_singleton.2 rfl))⟩
  unfold laidMetH at h
  rw [laidW_held, laidW_plain] at h
  exact h.1

theorem nil_func {P : Program} {w : World} {base : Nat} {sp : Nat → Bool} {fuel : Nat} {t : TypeId} {ps rs : Array TypeId} {va : Bool} {v : Value} {q : List MemPlace} {H : Type} {enc : TypeId × Value → H}
    (ht : P.underlying t = some (.func ps rs va)) (h : DataW.trod enc P w base sp true fuel t [v] = some (.nil, q)) : v = .nilFunc := by
  cases fuel with
  | zero => simp [DataW.trod] at h
  | succ n => cases v <;> simp [DataW.trod, ht] at h; rfl

theorem looks_out : looksD.funcsOut = .agg [.nil, .held [40, 42, 99, 114, 111, 102, 116, 47, 109, 97, 114, 99, 104, 46, 83, 116, 111, 114, 101, 41, 46, 109, 97, 114, 107], .held [40, 42, 99, 114, 111, 102, 116, 47, 109, 97, 114, 99, 104, 46, 83, 116, 111, 114, 101, 41, 46, 115, 119, 101, 101, 112]] := by kernel_rfl

theorem of_looks {W : World} (h : laidMetH Tryz.prog laidW W) : ∃ C E fz, W.heap[0]? = some (.cells C E fz) ∧ C.toList = [.nilFunc, .func (.func 438) #[] #[], .func (.func 439) #[] #[]] := by
  obtain ⟨_, g0, t0, cs0, f0, p0, hg0, ht0, hv0, hd0⟩ := laid_two h
  obtain rfl := Option.some.inj (gLooks.symm.trans hg0)
  obtain rfl := Option.some.inj (tLooks.symm.trans ht0)
  have hcells : ∃ E fz, W.heap[0]? = some (.cells cs0 E fz) := by
    simp only [World.var?, hg0, Option.bind_some] at hv0
    split at hv0
    · rename_i c E fz hb; cases hv0; exact ⟨E, fz, hb⟩
    · cases hv0
  obtain ⟨E, fz, hb⟩ := hcells
  refine ⟨cs0, E, fz, hb, ?_⟩
  rw [looks_out] at hd0
  obtain ⟨xs, m1, rfl, hx1, hlen, hn3, hel⟩ := DataW.trod_array Tryz.underlying229 hd0
  have c3 : Tryz.prog.cellsOf 228 = 1 := by kernel_rfl
  have c24 : Tryz.prog.cellsOf 229 = 3 := by kernel_rfl
  rw [c24] at hlen
  have hel : ∀ i, i < 3 → DataW.trod (funcToken Tryz.prog) Tryz.prog W 0 (fun _ => true) true m1 228 ((cs0.toList.drop i).take 1) = xs[i]? := by
    intro i hi; have := hel i hi; rw [c3] at this; simpa using this
  simp only [Prod.mk.injEq, DataW.agg.injEq] at hx1
  match hl : cs0.toList, hlen with
  | [a0, a1, a2], _ =>
    match xs, hn3, hx1 with
    | [x0, x1, x2], _, hx1 =>
      rw [hl] at hel
      simp only [List.map_cons, List.map_nil, List.cons.injEq, and_true] at hx1
      obtain ⟨⟨y0, y1, y2⟩, _⟩ := hx1
      obtain ⟨d0, q0⟩ := x0; obtain ⟨d1, q1⟩ := x1; obtain ⟨d2, q2⟩ := x2
      simp only at y0 y1 y2
      subst y0; subst y1; subst y2
      have h0 := hel 0 (by omega)
      have h1 := hel 1 (by omega)
      have h2 := hel 2 (by omega)
      simp only [List.drop_zero, List.drop_succ_cons, List.take_succ_cons, List.take_zero, List.getElem?_cons_zero, List.getElem?_cons_succ] at h0 h1 h2
      have e0 : a0 = .nilFunc := nil_func Tryz.underlying228 h0
      have e1 : a1 = .func (.func 438) #[] #[] := func_of_trod (f0 := 438) Tryz.underlying228 (by kernel_rfl) h1
      have e2 : a2 = .func (.func 439) #[] #[] := func_of_trod (f0 := 439) Tryz.underlying228 (by kernel_rfl) h2
      rw [e0, e1, e2]

/-- what the condition gives -/
theorem of_laid {W : World} (h : laidMetH Tryz.prog laidW W) : ∃ C E fz, W.heap[1]? = some (.cells C E fz) ∧ C.toList = [.int .u64 16, .int .u64 32, .int .u64 64, .int .u64 128, .int .u64 256, .int .u64 512, .int .u64 1024, .int .u64 2048] := by
  replace h := (laid_two h).1
  obtain ⟨ps, ⟨g0, t0, cs0, f0, p0, q0, hg0, ht0, hv0, hd0, _, _⟩, _, _⟩ := h
  obtain rfl := Option.some.inj (gWidths.symm.trans hg0)
  obtain rfl := Option.some.inj (tWidths.symm.trans ht0)
  have hcells : ∃ E fz, W.heap[1]? = some (.cells cs0 E fz) := by
    simp only [World.var?, hg0, Option.bind_some] at hv0
    split at hv0
    · rename_i c E fz hb; cases hv0; exact ⟨E, fz, hb⟩
    · cases hv0
  obtain ⟨E, fz, hb⟩ := hcells
  refine ⟨cs0, E, fz, hb, ?_⟩
  obtain ⟨xs, m1, rfl, hx1, hlen, hn3, hel⟩ := DataW.trod_array Tryz.underlying403 hd0
  have c3 : Tryz.prog.cellsOf 27 = 1 := by kernel_rfl
  have c24 : Tryz.prog.cellsOf 403 = 8 := by kernel_rfl
  rw [c24] at hlen
  have hel : ∀ i, i < 8 → DataW.trod (fun _ => ()) Tryz.prog W 0 (fun _ => true) false m1 27 ((cs0.toList.drop i).take 1) = xs[i]? := by
    intro i hi; have := hel i hi; rw [c3] at this; simpa using this
  simp only [Rows.laid_croft_slab_widths, Prod.mk.injEq, DataW.agg.injEq] at hx1
  match hl : cs0.toList, hlen with
  | [a0, a1, a2, a3, a4, a5, a6, a7], _ =>
    match xs, hn3, hx1 with
    | [x0, x1, x2, x3, x4, x5, x6, x7], _, hx1 =>
      rw [hl] at hel
      simp only [List.map_cons, List.map_nil, List.cons.injEq, and_true] at hx1
      obtain ⟨⟨y0, y1, y2, y3, y4, y5, y6, y7⟩, _⟩ := hx1
      have one : ∀ (a : Value) (x : DataW Unit × List MemPlace) (k : Int), DataW.trod (fun _ => ()) Tryz.prog W 0 (fun _ => true) false m1 27 [a] = some x → .lit (.int .u64 k) = x.1 → a = .int .u64 k := by
        intro a x k h hk
        obtain ⟨n, e1, e2, _⟩ := DataW.trod_int Tryz.underlying27 h
        rw [e2] at hk
        simp at hk e1
        rw [e1, hk]
      rw [one a0 x0 16 (by simpa using hel 0 (by omega)) y0, one a1 x1 32 (by simpa using hel 1 (by omega)) y1, one a2 x2 64 (by simpa using hel 2 (by omega)) y2, one a3 x3 128 (by simpa using hel 3 (by omega)) y3,
        one a4 x4 256 (by simpa using hel 4 (by omega)) y4, one a5 x5 512 (by simpa using hel 5 (by omega)) y5, one a6 x6 1024 (by simpa using hel 6 (by omega)) y6, one a7 x7 2048 (by simpa using hel 7 (by omega)) y7]

/-- the sizes of the first blocks -/
def firstPhi (G : Nat) (W : World) : Phi := fun g => if g < G then some (g, match W.heap[g]? with | some (.cells C _ _) => C.size | _ => 0) else none

theorem first_cells {W : World} {b k : Nat} {vs : List V} {xs : List Value} {C : Array Value} {E : TypeId} {fz : Nat × Nat} (hb : W.heap[b]? = some (.cells C E fz)) (hC : C.toList = xs) (hr : LR (firstPhi 3 W) vs xs) (hk : vs.length = k) :
    ObjR Tryz.prog (firstPhi 3 W) W.heap.size b C.size W (.cells true 0 k [] (ofList vs)) := by
  have hsz : C.size = k := by rw [← Array.length_toList, hC, hr.length, hk]
  refine ⟨C, E, fz, hb, rfl, (fun h => by cases h), by omega, ?_⟩
  intro i v hi
  subst hk
  rw [cellOf_ofList] at hi
  obtain ⟨x, hx, hv⟩ := hr.get i v hi
  refine ⟨x, ?_, hv⟩
  rw [← hx, ← hC, Array.getElem?_toList]

theorem start {W : World} (h : laidMetH Tryz.prog laidW W) (hbig : 2 < W.heap.size) : Rel gsz W.heap.size ⟨Tryz.prog, W, fun _ => False⟩ (firstPhi 3 W) s0 W := by
  have hG : gsz = 3 := rfl
  obtain ⟨C, E, fz, hb, hC⟩ := of_laid h
  obtain ⟨C', E', fz', hb', hC'⟩ := of_looks h
  have hget : ∀ a o, s0.objs.get a = some o → (a = 1 ∧ o = .cells true 0 8 [] (ofList [.int .u64 16,.int .u64 32,.int .u64 64,.int .u64 128,.int .u64 256,.int .u64 512,.int .u64 1024,.int .u64 2048])) ∨
      (a = 0 ∧ o = .cells true 0 3 [] (ofList [.nilFunc,.func 438 [] [],.func 439 [] []])) := by
    intro a o ho
    simp only [s0] at ho
    rw [T.get_set, T.get_set] at ho
    by_cases c : a = 0
    · rw [if_pos c] at ho; simp at ho; exact .inr ⟨c, ho.symm⟩
    · rw [if_neg c] at ho
      by_cases c : a = 1
      · rw [if_pos c] at ho; simp at ho; exact .inl ⟨c, ho.symm⟩
      · rw [if_neg c] at ho; simp [T.get] at ho
  rw [hG]
  refine ⟨Below.refl _ _, Nat.le_refl _, ?_, ?_, ?_, ?_, ?_, ?_, ?_, ?_⟩
  · intro a b n hab
    simp only [firstPhi] at hab
    split at hab
    · simp only [Option.some.injEq, Prod.mk.injEq] at hab; obtain ⟨rfl, _⟩ := hab; exact ⟨by simpa [s0], by omega⟩
    · cases hab
  · intro g hg; exact ⟨by simpa [s0] using hg, _, by simp [firstPhi, hg]; rfl⟩
  · intro a o b n ho hab
    rcases hget a o ho with ⟨rfl, rfl⟩ | ⟨rfl, rfl⟩
    · simp only [firstPhi] at hab
      rw [if_pos (by omega), hb] at hab
      simp only [Option.some.injEq, Prod.mk.injEq] at hab
      obtain ⟨rfl, rfl⟩ := hab
      exact first_cells hb hC (by exact ⟨_, _, rfl, rfl, _, _, rfl, rfl, _, _, rfl, rfl, _, _, rfl, rfl, _, _, rfl, rfl, _, _, rfl, rfl, _, _, rfl, rfl, _, _, rfl, rfl, rfl⟩) rfl
    · simp only [firstPhi] at hab
      rw [if_pos (by omega), hb'] at hab
      simp only [Option.some.injEq, Prod.mk.injEq] at hab
      obtain ⟨rfl, rfl⟩ := hab
      exact first_cells hb' hC' (by exact ⟨_, _, rfl, rfl, _, _, rfl, ⟨_, _, rfl, rfl, rfl⟩, _, _, rfl, ⟨_, _, rfl, rfl, rfl⟩, rfl⟩) rfl
  · intro a ha
    cases hc : s0.objs.get a with
    | none => rfl
    | some o => rcases hget a o hc with ⟨rfl, _⟩ | ⟨rfl, _⟩ <;> simp [s0] at ha
  · intro a a' o o' b n n' _ h1 _ hm
    rcases hget a o h1 with ⟨_, rfl⟩ | ⟨_, rfl⟩ <;> simp [AM.Obj.mut] at hm
  · intro a o h1 hg
    rcases hget a o h1 with ⟨_, rfl⟩ | ⟨_, rfl⟩ <;> exact (hg rfl).elim
  · intro g _; simp [s0, T.get]
  · intro a ha; exact ha.elim

/-- what a law's memo says of a call -/
theorem law_calls {m : Memo} (hm : MemoOk Tryz.prog gsz m) (hx : m.xs = []) (hσ : sameSt m.σ s0 = true) (hv : m.v = .bool true) {W : World} (h : laidMetH Tryz.prog laidW W) (hbig : 2 < W.heap.size) :
    Calls Tryz.prog m.g #[] W fun e W' => e = .returned (.bool true) ∧ Below W.heap.size W W' := by
  obtain ⟨h1, h2, _⟩ := hm
  rw [hx, sameSt_eq _ _ hσ, hv] at h1
  rcases h1 _ _ _ _ #[] rfl (start h hbig) (by exact LR.nil) with ⟨_, hc⟩ | ⟨x, w', φ', hc, _⟩
  · refine hc.mono ?_
    rintro e w' ⟨φ', x, rfl, _, hR, hvx⟩
    cases hvx
    exact ⟨rfl, hR.below⟩
  · rw [h2 #[] W] at hc
    simp at hc

/-- as the kit's 'returnsInHanded_of_change_and', with the world's shape handed on -/
theorem returnsInHanded_shaped {H : Type} {enc : TypeId × Value → H} {a : Assume} {C : Checked} {os : Os} {f : FuncId} {fn : Func} {s : ChangeSpec} {conds : List PathCond} {apart fresh handsOn again : Bool} {X : World → Array Value → Prop}
    (hX : ∀ (w w' : World) (args : Array Value), w.heap = w'.heap → X w args → X w' args)
    (own : ownKnob C.prog.godebug = none) (started : os.Started) (noInit : C.prog.inits.idxOf? f = none) (hfn : C.prog.funcs[f]? = some fn)
    (witness : ∃ (w : World) (tape : Tape) (i : Input), w.os = os ∧ (w.forCall tape i).Shaped C.prog ∧ i.vars = [] ∧ Input.okWide C.prog (w.forCall tape i) .any w.heap.size f i ∧
      ((s.pre enc C.prog fn conds apart (w.forCall tape i).memory i.args ∧ X (w.forCall tape i).memory i.args) ∧ sizedMet enc C.prog fn (OpenSpec.ofChange s) apart (w.forCall tape i).memory i.args) ∧ a.holds C.prog (lone (Frame.enter C.prog f i.args .normal) [] (w.forCall tape i)))
    (contract : ∀ (W : World) (base : Nat) (args : Array Value) (ds gs : List (DataW H)) (before : List MemPlace), W.ShapedOpen C.prog →
      (∀ (j : Nat) t v, fn.params[j]? = some t → args[j]? = some v → Value.okWide C.prog W .any base t v) →
      DataW.Whole enc C.prog fn.params.toList s.vars apart W args.toList ds gs before →
      conds.all (PathCond.test C.prog ⟨fn.params.toList, ds, s.plain.varTypes C.prog, gs⟩) = true →
      (DataW.weightsEach C.prog (fn.params.toList ++ s.plain.varTypes C.prog) (ds ++ gs)).all (· ≤ reachBytes) = true → X W args →
      a.holds C.prog (lone (Frame.enter C.prog f args .normal) [] W) →
      Calls C.prog f args W fun e W' => ∃ v, e = .returned v ∧ s.post enc C.prog fn apart fresh handsOn again W args v W') :
    ReturnsInHanded a C os f .any (fun w args => (s.pre enc C.prog fn conds apart w args ∧ X w args) ∧ sizedMet enc C.prog fn (OpenSpec.ofChange s) apart w args) (s.post enc C.prog fn apart fresh handsOn again) := by
  refine returnsInHanded_of_calls own started noInit witness ?_
  intro w tape i _ hsh _ hok hpre hholds
  obtain ⟨_, _, _, fn', hfn', _, _, _, _, hval⟩ := hok
  have e : fn' = fn := Option.some.inj (hfn'.symm.trans hfn)
  subst e
  obtain ⟨⟨⟨ds, gs, before, hw, hc⟩, hx⟩, hz⟩ := hpre
  have hw' := DataW.Whole.of_heap (w' := w.forCall tape i) (by rfl) hw
  refine (contract (w.forCall tape i) w.heap.size i.args ds gs before hsh hval hw' hc (hz.weights hw) (hX _ _ _ (by rfl) hx) hholds).mono fun e W' ⟨v, he, hp⟩ => ?_
  subst he
  exact ChangeSpec.post_blind hp

/-- the types' block is there -/
theorem big_of {W : World} (h : W.ShapedOpen Tryz.prog) : 2 < W.heap.size := by
  have h0 : 2 < (begin Tryz.prog (fun _ _ => 0) default).world.heap.size := of_decide_eq_true (by kernel_rfl)
  have hG : Tryz.prog.globals.size = 2 := by kernel_rfl
  obtain ⟨o, o0, ho, _⟩ := h.2 2 (by rw [hG]; exact Nat.le_refl _) h0
  exact (Array.getElem?_eq_some_iff.1 ho).1
end Go.Proofs.YtdnefddmghhgpaaGreatDoor
