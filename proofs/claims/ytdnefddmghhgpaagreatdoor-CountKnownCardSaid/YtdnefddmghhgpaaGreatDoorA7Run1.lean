import Derived.Test.YtdnefddmghhgpaaGreatDoorA7OpsX
import Derived.TacticsIn
import Derived.RangeFuncLeaves
import Derived.RangeFuncRecord
namespace AM
open Go Go.RowKit
set_option linter.unusedVariables false
set_option linter.unusedSimpArgs false
variable {P : Program} {φ : Phi} {tm : T V} {a : Act} {w : World} {w0 : Base} {σ σ' : St} {G B : Nat} {call : CallT}

def DR (P : Program) (φ : Phi) : Dfs → List Deferred → Prop
  | [], m => m = []
  | .call g xs :: r, m => ∃ (cap A : Array Value) (s : List Deferred), m = { target := .fn (.func g) cap, args := A } :: s ∧ LR φ xs (A ++ cap).toList ∧ DR P φ r s
  | .mark a :: r, m => ∃ (b n : Nat) (s : List Deferred), m = { target := .collected b, args := #[] } :: s ∧ φ a = some (b, n) ∧ DR P φ r s
  | .del kk k v :: r, m => ∃ (ats : Array TypeId) (ty : TypeId) (cs : Array Bool) (X Y : Value) (t kt e : TypeId) (s : List Deferred), m = { target := .builtin .delete ats ty cs, args := #[X, Y] } :: s ∧ ats[0]? = some t ∧ P.underlying t = some (.map kt e) ∧ okKey P kt = some kk ∧ VR φ k X ∧ VR φ v Y ∧ DR P φ r s

theorem DR.mono {φ ψ : Phi} (h : φ.le ψ) : ∀ {l : Dfs} {m : List Deferred}, DR P φ l m → DR P ψ l m
  | [], m, k => k
  | .call g xs :: r, m, ⟨cap, A, s, h1, h2, h3⟩ => ⟨cap, A, s, h1, LR.mono h _ _ h2, DR.mono h h3⟩
  | .mark a :: r, m, ⟨b, n, s, h1, h2, h3⟩ => ⟨b, n, s, h1, h _ _ h2, DR.mono h h3⟩
  | .del kk k v :: r, m, ⟨ats, ty, cs, X, Y, t, kt, e, s, h1, h2, h3, h4, h5, h6, h7⟩ => ⟨ats, ty, cs, X, Y, t, kt, e, s, h1, h2, h3, h4, VR.mono h _ _ h5, VR.mono h _ _ h6, DR.mono h h7⟩

structure FR (P : Program) (n : Nat) (φ : Phi) (fr : Fr) (a : Act) : Prop where
  ts : ∀ t, VR φ ((fr.tmps.get t).getD .undef) (a.tmps.getD t Go.undef)
  size : n ≤ a.tmps.size
  ds : DR P φ fr.defers a.defers

theorem FR.mono {n : Nat} {φ ψ : Phi} (h : φ.le ψ) {fr : Fr} {a : Act} (k : FR P n φ fr a) : FR P n ψ fr a :=
  ⟨fun t => VR.mono h _ _ (k.ts t), k.size, k.ds.mono h⟩

theorem FR.tr {n : Nat} {fr : Fr} (k : FR P n φ fr a) (l : List Nat) : TR φ fr.tmps a l := fun t _ => k.ts t

def okDst (n : Nat) (d : Option Nat) : Prop := ∀ t, d = some t → t < n

theorem FR.put {n : Nat} {fr : Fr} (k : FR P n φ fr a) {d : Option Nat} (hd : okDst n d) {v : V} {x : Value} (hv : VR φ v x) {ds : Dfs} {dfs : List Deferred} (hds : DR P φ ds dfs) :
    FR P n φ ⟨putD fr.tmps d v, ds⟩ (({ a with defers := dfs } : Act).put d x) := by
  cases d with
  | none => exact ⟨k.ts, k.size, hds⟩
  | some d =>
    have hlt : d < a.tmps.size := Nat.lt_of_lt_of_le (hd d rfl) k.size
    refine ⟨fun t => ?_, by simp [Act.put]; exact k.size, hds⟩
    simp only [putD, T.get_set, Act.put]
    by_cases e : t = d
    · subst e
      rw [if_pos rfl]
      have : (a.tmps.setIfInBounds t x).getD t Go.undef = x := by simp [Array.getD, hlt]
      rw [this]; exact hv
    · rw [if_neg e]
      have : (a.tmps.setIfInBounds d x).getD t Go.undef = a.tmps.getD t Go.undef := by
        rw [Array.getD_eq_getD_getElem?, Array.getD_eq_getD_getElem?, Array.getElem?_setIfInBounds_ne (Ne.symm e)]
      rw [this]; exact k.ts t

/-- what a call comes to -/
def CPost (G B : Nat) (w0 : Base) (φ : Phi) (σ' : St) (v : V) (e : Ending) (w' : World) : Prop :=
  ∃ φ' x, e = .returned x ∧ φ.le φ' ∧ Rel G B w0 φ' σ' w' ∧ VR φ' v x

/-- the fence that lets everything in; ro: of which make the frames are -/
abbrev fw (ro : Option Nat) : Fence := { Fence.wide with round := ro }

/-- a call in an expression, of one outcome -/
structure CallSound1 (P : Program) (G : Nat) (call : CallT) : Prop where
  plain : ∀ g xs σ v σ', call (.fn g) xs σ = some (v, σ') → ∀ B w0 φ w (args : Array Value), w0.P = P → Rel G B w0 φ σ w → LR φ xs args.toList →
    ((callFunc g args).run P w = .ok (.enter g args) w ∧ Calls P g args w (CPost G B w0 φ σ' v)) ∨
    ∃ x w' φ', (callFunc g args).run P w = .ok (.value x) w' ∧ φ.le φ' ∧ Rel G B w0 φ' σ' w' ∧ VR φ' v x
  round : ∀ l xs σ v σ', call (.rd l) xs σ = some (v, σ') → ∀ B w0 φ w (args : Array Value) b n, w0.P = P → φ l = some (b, n) → Rel G B w0 φ σ w → LR φ xs args.toList →
    ∃ f tmps asg body, (Instr.yield b args).run P w = .ok (.round b f tmps asg body) w ∧ RoundIn Fence.wide 0 P b f tmps asg body w (CPost G B w0 φ σ' v)

/-- one of the outcomes -/
def CPosts (G B : Nat) (w0 : Base) (φ : Phi) (outs : List (V × St)) (e : Ending) (w' : World) : Prop := ∃ o ∈ outs, CPost G B w0 φ o.2 o.1 e w'

/-- a call in an expression -/
structure CallSound (P : Program) (G : Nat) (call : CallN) : Prop where
  plain : ∀ g xs σ outs, call (.fn g) xs σ = some outs → ∀ B w0 φ w (args : Array Value), w0.P = P → Rel G B w0 φ σ w → LR φ xs args.toList →
    ((callFunc g args).run P w = .ok (.enter g args) w ∧ Calls P g args w (CPosts G B w0 φ outs)) ∨
    ∃ x w', (callFunc g args).run P w = .ok (.value x) w' ∧ CPosts G B w0 φ outs (.returned x) w'
  round : ∀ l xs σ outs, call (.rd l) xs σ = some outs → ∀ B w0 φ w (args : Array Value) b n, w0.P = P → φ l = some (b, n) → Rel G B w0 φ σ w → LR φ xs args.toList →
    ∃ f tmps asg body, (Instr.yield b args).run P w = .ok (.round b f tmps asg body) w ∧ RoundIn Fence.wide 0 P b f tmps asg body w (CPosts G B w0 φ outs)

theorem CallSound.det {call : CallN} (h : CallSound P G call) : CallSound1 P G (detC call) := by
  have key : ∀ c xs σ v σ', detC call c xs σ = some (v, σ') → call c xs σ = some [(v, σ')] := by
    intro c xs σ v σ' hc
    unfold detC at hc
    split at hc
    · rename_i r hr; cases hc; exact hr
    · cases hc
  constructor
  · intro g xs σ v σ' hc B w0 φ w args hP hR hL
    rcases h.plain g xs σ _ (key _ _ _ _ _ hc) B w0 φ w args hP hR hL with ⟨h1, h2⟩ | ⟨x, w', h1, o, ho, φ', y, hy, h2, h3, h4⟩
    · exact .inl ⟨h1, h2.mono (by rintro e w' ⟨o, ho, h3⟩; simp at ho; subst ho; exact h3)⟩
    · simp at ho; subst ho
      cases hy
      exact .inr ⟨x, w', φ', h1, h2, h3, h4⟩
  · intro l xs σ v σ' hc B w0 φ w args b n hP ha hR hL
    obtain ⟨f, tmps, asg, body, h1, h2⟩ := h.round l xs σ _ (key _ _ _ _ _ hc) B w0 φ w args b n hP ha hR hL
    exact ⟨f, tmps, asg, body, h1, h2.mono (by rintro e w' ⟨o, ho, h3⟩; simp at ho; subst ho; exact h3)⟩

/-- a call that was laid by -/
structure DefSound (P : Program) (G : Nat) (call : CallT) : Prop where
  enter : ∀ g xs σ v σ', call (.fn g) xs σ = some (v, σ') → ∀ args w, (callFunc g args).run P w = .ok (.enter g args) w
  callsD : ∀ g xs σ v σ', call (.fn g) xs σ = some (v, σ') → ∀ B w0 φ w (args : Array Value), w0.P = P → Rel G B w0 φ σ w → LR φ xs args.toList →
    CallsD P g args .returning w fun e u w' => u = .returning ∧ CPost G B w0 φ σ' v e w'

section opers
variable {ro : Option Nat} {o : Oper} {next : Act → World → Prop} {Q : Exit → Act → World → Prop}
theorem Oper.wpI_of (hnd : ro = none ∨ ∀ c, o.op ≠ .defer c) (h : o.uponIn (fw ro) 0 P a next Q ((execOp a.eval o).run P w)) : o.wpIn (fw ro) 0 P a w next Q := by
  refine ⟨fun _ _ => trivial, ?_⟩
  have : o.semAt (fw ro).round a.eval = execOp a.eval o := by
    rcases hnd with rfl | h
    · rfl
    · exact Oper.semAt_eq _ _ _ h
  rw [this]; exact h
theorem Oper.wpI_value {x : Value} {w' : World} (hnd : ro = none ∨ ∀ c, o.op ≠ .defer c) (h : (execOp a.eval o).run P w = .ok (.value x) w') (k : next (a.put o.dst x) w') : o.wpIn (fw ro) 0 P a w next Q :=
  Oper.wpI_of hnd (by rw [h]; exact k)
theorem Oper.wpI_skip {w' : World} (hnd : ro = none ∨ ∀ c, o.op ≠ .defer c) (h : (execOp a.eval o).run P w = .ok .skip w') (k : next (a.put o.dst Go.undef) w') : o.wpIn (fw ro) 0 P a w next Q :=
  Oper.wpI_of hnd (by rw [h]; exact k)
theorem Oper.wpI_enter {g : FuncId} {args : Array Value} {w' : World} {R : Ending → World → Prop} (hnd : ro = none ∨ ∀ c, o.op ≠ .defer c) (h : (execOp a.eval o).run P w = .ok (.enter g args) w')
    (hc : Calls P g args w' R) (k : ∀ e w'', R e w'' → ∃ x, e = .returned x ∧ next (a.put o.dst x) w'') : o.wpIn (fw ro) 0 P a w next Q := by
  refine Oper.wpI_of hnd ?_
  rw [h]
  refine ⟨fun hd => by simp [Fence.wide] at hd, ?_⟩
  have hci : CallsIn (fw ro) (0 - 1) P g args w' R := callsIn_wide.2 hc
  refine hci.mono ?_
  intro e w'' hr
  obtain ⟨x, rfl, hk⟩ := k e w'' hr
  exact hk
theorem Oper.wpI_round {l : Nat} {f : FuncId} {tmps : Array Value} {asg body : Code} {w' : World} {R : Ending → World → Prop} (hnd : ro = none ∨ ∀ c, o.op ≠ .defer c)
    (h : (execOp a.eval o).run P w = .ok (.round l f tmps asg body) w') (hc : RoundIn Fence.wide 0 P l f tmps asg body w' R) (k : ∀ e w'', R e w'' → ∃ x, e = .returned x ∧ next (a.put o.dst x) w'') : o.wpIn (fw ro) 0 P a w next Q := by
  refine Oper.wpI_of hnd ?_
  rw [h]
  refine ⟨fun hd => by simp [Fence.wide] at hd, ?_⟩
  have hci : RoundIn (fw ro) (0 - 1) P l f tmps asg body w' R := hc
  refine hci.mono ?_
  intro e w'' hr
  obtain ⟨x, rfl, hk⟩ := k e w'' hr
  exact hk
end opers

/-- operations that enter a function, or lay one by -/
def Goes (op : AOp) : Prop := (∃ g xs, op = .call g xs) ∨ (∃ g xs, op = .callv g xs) ∨ (∃ g xs, op = .defer g xs) ∨ (∃ g xs, op = .deferv g xs)

def goesB : AOp → Bool
  | .call .. | .callv .. | .defer .. | .deferv .. => true
  | _ => false
theorem Goes.b {op : AOp} (h : Goes op) : goesB op = true := by
  rcases h with ⟨g, xs, rfl⟩ | ⟨g, xs, rfl⟩ | ⟨g, xs, rfl⟩ | ⟨g, xs, rfl⟩ <;> rfl

theorem cBuiltin_no {b : Builtin} {ats : Array TypeId} {args : List Operand} {op : AOp} (hg : Goes op) (h : cBuiltin P b ats args = some op) : False := by
  have hg := hg.b
  unfold cBuiltin at h
  repeat' (split at h)
  all_goals (first | (cases h; done) | (cases h; simp [goesB] at hg))

theorem compOp_no {dst : Option Tmp} {type : TypeId} {pos : String} {after : Array Edge} {guard : Option (Nat × Bool)} {o : Op} {op : AOp} (hg : Goes op) (h1 : ∀ c, o ≠ .call c) (h2 : ∀ c, o ≠ .defer c)
    (h : compOp0 P ⟨dst, o, type, pos, after, guard⟩ = some op) : False := by
  have hg := hg.b
  cases o with
  | call c => exact h1 c rfl
  | defer c => exact h2 c rfl
  | load t x => simp only [compOp0, cLoad] at h; split at h <;> cases h; simp [goesB] at hg
  | binOp op t x y yt =>
    simp only [compOp0, cBin] at h
    repeat' (split at h)
    all_goals (first | (cases h; done) | (cases h; simp [goesB] at hg))
  | slice t x lo hi mx =>
    simp only [compOp0, cSlice] at h
    repeat' (split at h)
    all_goals (first | (cases h; done) | (cases h; simp [goesB] at hg))
  | makeMap t r => cases r <;> simp only [compOp0] at h <;> cases h; simp [goesB] at hg
  | makeFunc fn x c => cases fn <;> simp only [compOp0] at h <;> (try (cases h; done)); split at h <;> cases h; simp [goesB] at hg
  | move x => simp only [compOp0] at h; split at h <;> cases h; simp [goesB] at hg
  | assign x => simp only [compOp0] at h; split at h <;> cases h; simp [goesB] at hg
  | alloc t | box t x | build t ps | buildSlice t l ps | store t x y | nilCheck x | unOp u t x | convert s d x | makeSlice t l c | fieldAddr s x i | field t x i | indexAddr t x i | index t x i | lookup t m k ok | mapUpdate t m k x | extract x i | pick c x y =>
    simp only [compOp0] at h
    repeat' (split at h)
    all_goals (first | (cases h; done) | (cases h; simp [goesB] at hg))
  | _ => simp [compOp0] at h

theorem cBuiltin_notX {b : Builtin} {ats : Array TypeId} {args : List Operand} {op : AOp} (hg : isX op = true) (h : cBuiltin P b ats args = some op) : False := by
  unfold cBuiltin at h
  repeat' (split at h)
  all_goals (first | (cases h; done) | (cases h; simp [isX] at hg))

theorem compOp0_notX {dst : Option Tmp} {type : TypeId} {pos : String} {after : Array Edge} {guard : Option (Nat × Bool)} {o : Op} {op : AOp} (hg : isX op = true)
    (h : compOp0 P ⟨dst, o, type, pos, after, guard⟩ = some op) : False := by
  cases o with
  | call c =>
    obtain ⟨callee, args, ats⟩ := c
    cases callee with
    | value f =>
      simp only [compOp0] at h
      split at h
      · split at h
        · cases h; simp [isX] at hg
        · split at h <;> cases h; simp [isX] at hg
      · cases h
    | invoke r m => simp [compOp0] at h
    | builtin b => simp only [compOp0] at h; exact cBuiltin_notX hg h
  | defer c =>
    obtain ⟨callee, args, ats⟩ := c
    cases callee with
    | value f =>
      simp only [compOp0] at h
      split at h
      · split at h
        · cases h; simp [isX] at hg
        · split at h <;> cases h; simp [isX] at hg
      · cases h
    | invoke r m => simp [compOp0] at h
    | builtin b => simp [compOp0] at h
  | load t x => simp only [compOp0, cLoad] at h; split at h <;> cases h; simp [isX] at hg
  | binOp op t x y yt =>
    simp only [compOp0, cBin] at h
    repeat' (split at h)
    all_goals (first | (cases h; done) | (cases h; simp [isX] at hg))
  | slice t x lo hi mx =>
    simp only [compOp0, cSlice] at h
    repeat' (split at h)
    all_goals (first | (cases h; done) | (cases h; simp [isX] at hg))
  | makeMap t r => cases r <;> simp only [compOp0] at h <;> cases h; simp [isX] at hg
  | makeFunc fn x c => cases fn <;> simp only [compOp0] at h <;> (try (cases h; done)); split at h <;> cases h; simp [isX] at hg
  | move x => simp only [compOp0] at h; split at h <;> cases h; simp [isX] at hg
  | assign x => simp only [compOp0] at h; split at h <;> cases h; simp [isX] at hg
  | alloc t | box t x | build t ps | buildSlice t l ps | store t x y | nilCheck x | unOp u t x | convert s d x | makeSlice t l c | fieldAddr s x i | field t x i | indexAddr t x i | index t x i | lookup t m k ok | mapUpdate t m k x | extract x i | pick c x y =>
    simp only [compOp0] at h
    repeat' (split at h)
    all_goals (first | (cases h; done) | (cases h; simp [isX] at hg))
  | _ => simp [compOp0] at h

theorem writeOp_isWrite {op : AOp} {r : V × St} (h : writeOp op tm σ = some r) : isWrite op = true := by
  cases op <;> first | rfl | (simp [writeOp] at h)

theorem compX_call {o : Oper} {op : AOp} {c : Call} (h : compX P o = some op) (ho : o.op = .call c) : ∃ r name xs a, c.callee = .invoke r name ∧ opd P r = some a ∧ opds P c.args.toList = some xs ∧ op = .invoke (methTbl P name) a xs := by
  unfold compX at h
  rw [ho] at h
  simp only at h
  split at h
  · rename_i r name hcal
    split at h
    · rename_i a xs ha hxs
      cases h
      exact ⟨r, name, xs, a, hcal, ha, hxs, rfl⟩
    · cases h
  · cases h

theorem comp_invoke {dst : Option Tmp} {op' : Op} {type : TypeId} {pos : String} {after : Array Edge} {guard : Option (Nat × Bool)} {tbl : List (TypeId × FuncId)} {x : Opd} {xs : List Opd} {ops : Array Oper} (hc : compOp P ops ⟨dst, op', type, pos, after, guard⟩ = some (.invoke tbl x xs)) :
    ∃ r name args ats, op' = .call ⟨.invoke r name, args, ats⟩ ∧ opd P r = some x ∧ opds P args.toList = some xs ∧ tbl = methTbl P name := by
  rcases compOp_spec hc with h | h | h | h
  · exact (compOp0_notX rfl h).elim
  · unfold compM at h
    repeat' (split at h)
    all_goals (cases h; done)
  · unfold compC at h
    repeat' (split at h)
    all_goals (cases h; done)
  · cases op' with
    | call c =>
      obtain ⟨r, name, xs', a', hcal, ha, hxs, he⟩ := compX_call h rfl
      obtain ⟨callee, args, ats⟩ := c
      simp only at hcal
      subst hcal
      cases he
      exact ⟨r, name, args, ats, rfl, ha, hxs, rfl⟩
    | _ =>
      unfold compX at h
      simp only at h
      repeat' (split at h)
      all_goals (first | contradiction | (cases h; done))

theorem comp_deferD {dst : Option Tmp} {op' : Op} {type : TypeId} {pos : String} {after : Array Edge} {guard : Option (Nat × Bool)} {kk : Kk} {m q : Opd} {ops : Array Oper} (hc : compOp P ops ⟨dst, op', type, pos, after, guard⟩ = some (.deferD kk m q)) :
    ∃ ats x y t kt e, op' = .defer ⟨.builtin .delete, #[x, y], ats⟩ ∧ ats[0]? = some t ∧ P.underlying t = some (.map kt e) ∧ okKey P kt = some kk ∧ opd P x = some m ∧ opd P y = some q := by
  rcases compOp_spec hc with h | h | h | h
  · exact (compOp0_notX rfl h).elim
  · unfold compM at h
    repeat' (split at h)
    all_goals (cases h; done)
  · unfold compC at h
    repeat' (split at h)
    all_goals (cases h; done)
  · cases op' with
    | defer c =>
      obtain ⟨callee, args, ats⟩ := c
      unfold compX at h
      simp only at h
      split at h
      · split at h
        · rename_i t x y hat hargs
          split at h
          · rename_i kt e a' b' hu hx hy
            split at h
            · rename_i kk' hkk
              cases h
              have e1 : args = #[x, y] := by cases args; simp_all
              subst e1
              exact ⟨ats, x, y, t, kt, e, rfl, hat, hu, hkk, hx, hy⟩
            · cases h
          · cases h
        · cases h
      · cases h
    | call c =>
      obtain ⟨r, name, xs', a', hcal, ha, hxs, he⟩ := compX_call h rfl
      cases he
    | _ =>
      unfold compX at h
      simp only at h
      repeat' (split at h)
      all_goals (first | contradiction | (cases h; done))

theorem invoke_run {dst : Option Tmp} {type : TypeId} {pos : String} {after : Array Edge} {guard : Option (Nat × Bool)} {r : Operand} {name : String} {args : Array Operand} {ats : Array TypeId} {t : TypeId} {X : Value} {f : FuncId}
    (hX : a.eval r = .iface t X) (hm : (method (P.types.size + Made.depth) t X name).run P w = .ok (f, X) w) :
    (execOp a.eval ⟨dst, .call ⟨.invoke r name, args, ats⟩, type, pos, after, guard⟩).run P w = (callFunc f (#[X] ++ args.map a.eval)).run P w := by
  have h0 : ((#[Value.iface t X] ++ args.map a.eval)[0]? : Option Value) = some (.iface t X) := by rw [Array.getElem?_append_left (by simp)]; rfl
  have h1 : (#[Value.iface t X] ++ args.map a.eval).extract 1 (#[Value.iface t X] ++ args.map a.eval).size = args.map a.eval := by
    apply Array.ext'
    simp
    exact List.take_of_length_le (by simp)
  simp only [execOp, resolve, hX, invoke, Sem.run_bind, Sem.run_pure, Result.andThen_ok, h0, h1, callMethod, program, Sem.run, hm]

theorem evalOp_sound (hcall : CallSound1 P G call) {ro : Option Nat} {o : Oper} {op : AOp} {ds ds' : Dfs} {v : V} {ops : Array Oper} (hc : compOp P ops o = some op) (hv : evalOp call op tm ds σ = some (v, ds', σ')) (hGP : P.globals.size ≤ G)
    (hT : TR φ tm a op.tmps) (hD : DR P φ ds a.defers) (hP : w0.P = P) (hnd : ro = none ∨ ∀ c, o.op ≠ .defer c) (hR : Rel G B w0 φ σ w) {next : Act → World → Prop} {Q : Exit → Act → World → Prop}
    (k : ∀ φ' x w' dfs, φ.le φ' → Rel G B w0 φ' σ' w' → VR φ' v x → DR P φ' ds' dfs → next (({ a with defers := dfs } : Act).put o.dst x) w') : o.wpIn (fw ro) 0 P a w next Q := by
  have hG : GR P φ := fun g hg => (hR.glob g (by omega)).2
  unfold evalOp at hv
  split at hv
  · rename_i hp
    split at hv
    · rename_i u hu
      simp only [Option.some.injEq, Prod.mk.injEq] at hv
      obtain ⟨rfl, rfl, rfl⟩ := hv
      obtain ⟨x, hx, hvx⟩ := pure_sound (w := w) hc hp hu hG hT
      exact Oper.wpI_value hnd hx (k φ x w a.defers (Phi.le.refl _) hR hvx hD)
    · cases hv
  · split at hv
    · rename_i hp
      split at hv
      · rename_i u hu
        simp only [Option.some.injEq, Prod.mk.injEq] at hv
        obtain ⟨rfl, rfl, rfl⟩ := hv
        obtain ⟨x, hx, hvx⟩ := read_sound (w := w) hc hp hu hG hT hR
        exact Oper.wpI_value hnd hx (k φ x w a.defers (Phi.le.refl _) hR hvx hD)
      · cases hv
    · have hwrite : isWrite op = true → ∀ {r}, writeOp op tm σ = some r → some (r.1, ds, r.2) = some (v, ds', σ') → o.wpIn (fw ro) 0 P a w next Q := by
        intro hw r hr he
        simp only [Option.some.injEq, Prod.mk.injEq] at he
        obtain ⟨rfl, rfl, rfl⟩ := he
        obtain ⟨x, w', φ', hrun, hle, hR', hvx⟩ := write_sound (w := w) hc hw hr hG hT hR
        rcases hrun with hrun | ⟨hrun, rfl⟩
        · exact Oper.wpI_value hnd hrun (k φ' x w' a.defers hle hR' hvx (hD.mono hle))
        · exact Oper.wpI_skip hnd hrun (k φ' Go.undef w' a.defers hle hR' hvx (hD.mono hle))
      obtain ⟨dst, op', type, pos, after, guard⟩ := o
      split at hv
      · -- call
        rename_i g xs _ _
        split at hv
        · rename_i u σ2 hcl
          simp only [Option.some.injEq, Prod.mk.injEq] at hv
          obtain ⟨rfl, rfl, rfl⟩ := hv
          have hc := (compOp_spec hc).resolve_right (fun h => by have := compY_isX h; simp [isX] at this)
          have hcomp : ∃ args : Array Operand, ∃ ats, op' = .call ⟨.value (.func g), args, ats⟩ ∧ opds P args.toList = some xs := by
            cases op' with
            | call c =>
              obtain ⟨callee, args, ats⟩ := c
              cases callee with
              | value f =>
                simp only [compOp0] at hc
                split at hc
                · rename_i ys hys
                  split at hc
                  · cases hc; exact ⟨args, ats, rfl, hys⟩
                  · split at hc <;> cases hc
                · cases hc
              | invoke r m => simp [compOp0] at hc
              | builtin b => simp only [compOp0] at hc; exact (cBuiltin_no (.inl ⟨g, xs, rfl⟩) hc).elim
            | defer c =>
              obtain ⟨callee, args, ats⟩ := c
              cases callee with
              | value f =>
                simp only [compOp0] at hc
                split at hc
                · split at hc
                  · cases hc
                  · split at hc <;> cases hc
                · cases hc
              | invoke r m => simp [compOp0] at hc
              | builtin b => simp [compOp0] at hc
            | _ => exact (compOp_no (.inl ⟨g, xs, rfl⟩) (by simp) (by simp) hc).elim
          obtain ⟨args, ats, rfl, hxs⟩ := hcomp
          have hr := opds_rel (tm := tm) (a := a) hG hxs hT
          have hr' : LR φ (xs.map (·.eval tm)) (args.map a.eval).toList := by simpa using hr
          rcases hcall.plain g _ σ _ _ hcl B w0 φ w _ hP hR hr' with ⟨he, hcs⟩ | ⟨x, w', φ', he, h1, h2, h3⟩
          · refine Oper.wpI_enter hnd (g := g) (args := args.map a.eval) (w' := w) ?_ hcs (by rintro e w'' ⟨φ', x, rfl, h1, h2, h3⟩; exact ⟨x, rfl, k φ' x w'' a.defers h1 h2 h3 (hD.mono h1)⟩)
            simp [execOp, resolve, Deferred.ofValue, Act.eval, invoke, he]
          · refine Oper.wpI_value hnd (x := x) (w' := w') ?_ (k φ' x w' a.defers h1 h2 h3 (hD.mono h1))
            simp [execOp, resolve, Deferred.ofValue, Act.eval, invoke, he]
        · cases hv
      · -- callv
        rename_i g xs _ _
        split at hv
        · rename_i f first cap hf
          split at hv
          · rename_i u σ2 hcl
            simp only [Option.some.injEq, Prod.mk.injEq] at hv
            obtain ⟨rfl, rfl, rfl⟩ := hv
            have hc := (compOp_spec hc).resolve_right (fun h => by have := compY_isX h; simp [isX] at this)
            have hcomp : ∃ (y : Operand) (args : Array Operand), ∃ ats, op' = .call ⟨.value y, args, ats⟩ ∧ opd P y = some g ∧ opds P args.toList = some xs := by
              cases op' with
              | call c =>
                obtain ⟨callee, args, ats⟩ := c
                cases callee with
                | value y =>
                  simp only [compOp0] at hc
                  split at hc
                  · rename_i ys hys
                    split at hc
                    · cases hc
                    · split at hc
                      · rename_i z hz; cases hc; exact ⟨y, args, ats, rfl, hz, hys⟩
                      · cases hc
                  · cases hc
                | invoke r m => simp [compOp0] at hc
                | builtin b => simp only [compOp0] at hc; exact (cBuiltin_no (.inr (.inl ⟨g, xs, rfl⟩)) hc).elim
              | defer c =>
                obtain ⟨callee, args, ats⟩ := c
                cases callee with
                | value f =>
                  simp only [compOp0] at hc
                  split at hc
                  · split at hc
                    · cases hc
                    · split at hc <;> cases hc
                  · cases hc
                | invoke r m => simp [compOp0] at hc
                | builtin b => simp [compOp0] at hc
              | _ => exact (compOp_no (.inr (.inl ⟨g, xs, rfl⟩)) (by simp) (by simp) hc).elim
            obtain ⟨y, args, ats, rfl, hy, hxs⟩ := hcomp
            have hr0 := opd_rel (tm := tm) (a := a) hG hy hT.left
            have hr := opds_rel (tm := tm) (a := a) hG hxs hT.right
            rw [hf] at hr0
            obtain ⟨F, C, hF, hrF, hrC⟩ := hr0
            have hr' : LR φ (first ++ xs.map (·.eval tm) ++ cap) (F ++ args.map a.eval ++ C).toList := by
              simp only [Array.toList_append, Array.toList_map]
              exact LR.append (LR.append hrF hr) hrC
            rcases hcall.plain f _ σ _ _ hcl B w0 φ w _ hP hR hr' with ⟨he, hcs⟩ | ⟨x, w', φ', he, h1, h2, h3⟩
            · refine Oper.wpI_enter hnd (g := f) (args := F ++ args.map a.eval ++ C) (w' := w) ?_ hcs (by rintro e w'' ⟨φ', x, rfl, h1, h2, h3⟩; exact ⟨x, rfl, k φ' x w'' a.defers h1 h2 h3 (hD.mono h1)⟩)
              simp only [execOp, resolve, Deferred.ofValue, hF, invoke, Sem.run_bind, Sem.run_pure, Result.andThen_ok]
              exact he
            · refine Oper.wpI_value hnd (x := x) (w' := w') ?_ (k φ' x w' a.defers h1 h2 h3 (hD.mono h1))
              simp only [execOp, resolve, Deferred.ofValue, hF, invoke, Sem.run_bind, Sem.run_pure, Result.andThen_ok]
              exact he
          · cases hv
        · rename_i l hf
          split at hv
          · rename_i u σ2 hcl
            simp only [Option.some.injEq, Prod.mk.injEq] at hv
            obtain ⟨rfl, rfl, rfl⟩ := hv
            have hc := (compOp_spec hc).resolve_right (fun h => by have := compY_isX h; simp [isX] at this)
            have hcomp : ∃ (y : Operand) (args : Array Operand), ∃ ats, op' = .call ⟨.value y, args, ats⟩ ∧ opd P y = some g ∧ opds P args.toList = some xs := by
              cases op' with
              | call c =>
                obtain ⟨callee, args, ats⟩ := c
                cases callee with
                | value y =>
                  simp only [compOp0] at hc
                  split at hc
                  · rename_i ys hys
                    split at hc
                    · cases hc
                    · split at hc
                      · rename_i z hz; cases hc; exact ⟨y, args, ats, rfl, hz, hys⟩
                      · cases hc
                  · cases hc
                | invoke r m => simp [compOp0] at hc
                | builtin b => simp only [compOp0] at hc; exact (cBuiltin_no (.inr (.inl ⟨g, xs, rfl⟩)) hc).elim
              | defer c =>
                obtain ⟨callee, args, ats⟩ := c
                cases callee with
                | value f =>
                  simp only [compOp0] at hc
                  split at hc
                  · split at hc
                    · cases hc
                    · split at hc <;> cases hc
                  · cases hc
                | invoke r m => simp [compOp0] at hc
                | builtin b => simp [compOp0] at hc
              | _ => exact (compOp_no (.inr (.inl ⟨g, xs, rfl⟩)) (by simp) (by simp) hc).elim
            obtain ⟨y, args, ats, rfl, hy, hxs⟩ := hcomp
            have hr0 := opd_rel (tm := tm) (a := a) hG hy hT.left
            have hr := opds_rel (tm := tm) (a := a) hG hxs hT.right
            rw [hf] at hr0
            obtain ⟨b, n, hb, hF⟩ := hr0
            have hr' : LR φ (xs.map (·.eval tm)) (args.map a.eval).toList := by simpa using hr
            obtain ⟨f, tmps, asg, body, hy2, hrd⟩ := hcall.round l _ σ _ _ hcl B w0 φ w _ b n hP hb hR hr'
            refine Oper.wpI_round hnd (l := b) (f := f) (tmps := tmps) (asg := asg) (body := body) (w' := w) ?_ hrd (by rintro e w'' ⟨φ', x, rfl, h1, h2, h3⟩; exact ⟨x, rfl, k φ' x w'' a.defers h1 h2 h3 (hD.mono h1)⟩)
            simp [execOp, resolve, Deferred.ofValue, hF, invoke, hy2]
          · cases hv
        · cases hv
      · -- invoke
        rename_i tbl g xs _ _
        split at hv
        · rename_i t v1 hf
          split at hv
          · rename_i f hft
            split at hv
            · rename_i u σ2 hcl
              simp only [Option.some.injEq, Prod.mk.injEq] at hv
              obtain ⟨rfl, rfl, rfl⟩ := hv
              obtain ⟨r, name, args, ats, rfl, hy, hxs, rfl⟩ := comp_invoke hc
              have hr0 := opd_rel (tm := tm) (a := a) hG hy hT.left
              have hr := opds_rel (tm := tm) (a := a) hG hxs hT.right
              rw [hf] at hr0
              obtain ⟨X, hX, hrX⟩ := hr0
              have hr' : LR φ (v1 :: xs.map (·.eval tm)) (#[X] ++ args.map a.eval).toList := by
                simp only [Array.toList_append, Array.toList_map]
                exact LR.cons hrX hr
              have hm := method_run (P := P) hft X w
              have hrun := invoke_run (P := P) (w := w) (a := a) (dst := dst) (type := type) (pos := pos) (after := after) (guard := guard) (ats := ats) (args := args) hX hm
              rcases hcall.plain f _ σ _ _ hcl B w0 φ w _ hP hR hr' with ⟨he, hcs⟩ | ⟨x, w', φ', he, h1, h2, h3⟩
              · exact Oper.wpI_enter hnd (g := f) (args := #[X] ++ args.map a.eval) (w' := w) (by rw [hrun]; exact he) hcs (by rintro e w'' ⟨φ', x, rfl, h1, h2, h3⟩; exact ⟨x, rfl, k φ' x w'' a.defers h1 h2 h3 (hD.mono h1)⟩)
              · exact Oper.wpI_value hnd (x := x) (w' := w') (by rw [hrun]; exact he) (k φ' x w' a.defers h1 h2 h3 (hD.mono h1))
            · cases hv
          · cases hv
        · cases hv
      · -- deferD
        rename_i kk m q _ _
        simp only [Option.some.injEq, Prod.mk.injEq] at hv
        obtain ⟨rfl, rfl, rfl⟩ := hv
        obtain ⟨ats, x, y, t, kt, e, rfl, hat, hu, hkk, hx, hy⟩ := comp_deferD hc
        have r1 := opd_rel (tm := tm) (a := a) hG hx hT.left
        have r2 := opd_rel (tm := tm) (a := a) hG hy hT.right
        obtain ⟨cs, hrun⟩ : ∃ cs, (execOp a.eval ⟨dst, .defer ⟨.builtin .delete, #[x, y], ats⟩, type, pos, after, guard⟩).run P w = .ok (.defer { target := .builtin .delete ats type cs, args := #[a.eval x, a.eval y] }) w := by
          have harr : #[x, y].map a.eval = #[a.eval x, a.eval y] := by simp
          rw [← harr]
          exact ⟨_, rfl⟩
        have hd : DR P φ (.del kk (m.eval tm) (q.eval tm) :: ds) ({ target := .builtin .delete ats type cs, args := #[a.eval x, a.eval y] } :: a.defers) :=
          ⟨ats, type, cs, a.eval x, a.eval y, t, kt, e, a.defers, rfl, hat, hu, hkk, r1, r2, hD⟩
        refine Oper.wpI_of hnd ?_
        rw [hrun]
        exact k φ Go.undef w _ (Phi.le.refl _) hR VR.undef hd
      · -- defer
        rename_i g xs _ _
        simp only [Option.some.injEq, Prod.mk.injEq] at hv
        obtain ⟨rfl, rfl, rfl⟩ := hv
        have hc := (compOp_spec hc).resolve_right (fun h => by have := compY_isX h; simp [isX] at this)
        have hcomp : ∃ args : Array Operand, ∃ ats, op' = .defer ⟨.value (.func g), args, ats⟩ ∧ opds P args.toList = some xs := by
          cases op' with
          | defer c =>
            obtain ⟨callee, args, ats⟩ := c
            cases callee with
            | value f =>
              simp only [compOp0] at hc
              split at hc
              · rename_i ys hys
                split at hc
                · cases hc; exact ⟨args, ats, rfl, hys⟩
                · split at hc <;> cases hc
              · cases hc
            | invoke r m => simp [compOp0] at hc
            | builtin b => simp [compOp0] at hc
          | call c =>
            obtain ⟨callee, args, ats⟩ := c
            cases callee with
            | value f =>
              simp only [compOp0] at hc
              split at hc
              · split at hc
                · cases hc
                · split at hc <;> cases hc
              · cases hc
            | invoke r m => simp [compOp0] at hc
            | builtin b => simp only [compOp0] at hc; exact (cBuiltin_no (.inr (.inr (.inl ⟨g, xs, rfl⟩))) hc).elim
          | _ => exact (compOp_no (.inr (.inr (.inl ⟨g, xs, rfl⟩))) (by simp) (by simp) hc).elim
        obtain ⟨args, ats, rfl, hxs⟩ := hcomp
        have hr := opds_rel (tm := tm) (a := a) hG hxs hT
        have hd : DR P φ (.call g (xs.map (·.eval tm)) :: ds) ({ target := .fn (.func g) #[], args := args.map a.eval } :: a.defers) :=
          ⟨#[], args.map a.eval, a.defers, rfl, by simpa using hr, hD⟩
        refine Oper.wpI_of hnd ?_
        have : (execOp a.eval ⟨dst, .defer ⟨.value (.func g), args, ats⟩, type, pos, after, guard⟩).run P w = .ok (.defer { target := .fn (.func g) #[], args := args.map a.eval }) w := by
          simp [execOp, resolve, Deferred.ofValue, Act.eval]
        rw [this]
        exact k φ Go.undef w _ (Phi.le.refl _) hR VR.undef hd
      · -- deferv
        rename_i g xs _ _
        split at hv
        · rename_i f first cap hf
          simp only [Option.some.injEq, Prod.mk.injEq] at hv
          obtain ⟨rfl, rfl, rfl⟩ := hv
          have hc := (compOp_spec hc).resolve_right (fun h => by have := compY_isX h; simp [isX] at this)
          have hcomp : ∃ (y : Operand) (args : Array Operand), ∃ ats, op' = .defer ⟨.value y, args, ats⟩ ∧ opd P y = some g ∧ opds P args.toList = some xs := by
            cases op' with
            | defer c =>
              obtain ⟨callee, args, ats⟩ := c
              cases callee with
              | value y =>
                simp only [compOp0] at hc
                split at hc
                · rename_i ys hys
                  split at hc
                  · cases hc
                  · split at hc
                    · rename_i z hz; cases hc; exact ⟨y, args, ats, rfl, hz, hys⟩
                    · cases hc
                · cases hc
              | invoke r m => simp [compOp0] at hc
              | builtin b => simp [compOp0] at hc
            | call c =>
              obtain ⟨callee, args, ats⟩ := c
              cases callee with
              | value y =>
                simp only [compOp0] at hc
                split at hc
                · split at hc
                  · cases hc
                  · split at hc <;> cases hc
                · cases hc
              | invoke r m => simp [compOp0] at hc
              | builtin b => simp only [compOp0] at hc; exact (cBuiltin_no (.inr (.inr (.inr ⟨g, xs, rfl⟩))) hc).elim
            | _ => exact (compOp_no (.inr (.inr (.inr ⟨g, xs, rfl⟩))) (by simp) (by simp) hc).elim
          obtain ⟨y, args, ats, rfl, hy, hxs⟩ := hcomp
          have hr0 := opd_rel (tm := tm) (a := a) hG hy hT.left
          have hr := opds_rel (tm := tm) (a := a) hG hxs hT.right
          rw [hf] at hr0
          obtain ⟨F, C, hF, hrF, hrC⟩ := hr0
          have hd : DR P φ (.call f (first ++ xs.map (·.eval tm) ++ cap) :: ds) ({ target := .fn (.func f) C, args := F ++ args.map a.eval } :: a.defers) :=
            ⟨C, F ++ args.map a.eval, a.defers, rfl, by simp only [Array.toList_append, Array.toList_map]; exact LR.append (LR.append hrF hr) hrC, hD⟩
          refine Oper.wpI_of hnd ?_
          have : (execOp a.eval ⟨dst, .defer ⟨.value y, args, ats⟩, type, pos, after, guard⟩).run P w = .ok (.defer { target := .fn (.func f) C, args := F ++ args.map a.eval }) w := by
            simp [execOp, resolve, Deferred.ofValue, hF]
          rw [this]
          exact k φ Go.undef w _ (Phi.le.refl _) hR VR.undef hd
        · cases hv
      · rename_i op hn1 hn2 hn3 hn4 hn5 hn6
        split at hv
        · rename_i u σ2 hw
          refine hwrite ?_ hw (by simpa using hv)
          exact writeOp_isWrite hw
        · cases hv

theorem comp_call {dst : Option Tmp} {op' : Op} {type : TypeId} {pos : String} {after : Array Edge} {guard : Option (Nat × Bool)} {g : FuncId} {xs : List Opd} {ops : Array Oper} (hc : compOp P ops ⟨dst, op', type, pos, after, guard⟩ = some (.call g xs)) :
    ∃ args : Array Operand, ∃ ats, op' = .call ⟨.value (.func g), args, ats⟩ ∧ opds P args.toList = some xs := by
  have hc := (compOp_spec hc).resolve_right (fun h => by have := compY_isX h; simp [isX] at this)
  cases op' with
  | call c =>
    obtain ⟨callee, args, ats⟩ := c
    cases callee with
    | value f =>
      simp only [compOp0] at hc
      split at hc
      · rename_i ys hys
        split at hc
        · cases hc; exact ⟨args, ats, rfl, hys⟩
        · split at hc <;> cases hc
      · cases hc
    | invoke r m => simp [compOp0] at hc
    | builtin b => simp only [compOp0] at hc; exact (cBuiltin_no (.inl ⟨g, xs, rfl⟩) hc).elim
  | defer c =>
    obtain ⟨callee, args, ats⟩ := c
    cases callee with
    | value f =>
      simp only [compOp0] at hc
      split at hc
      · split at hc
        · cases hc
        · split at hc <;> cases hc
      · cases hc
    | invoke r m => simp [compOp0] at hc
    | builtin b => simp [compOp0] at hc
  | _ => exact (compOp_no (.inl ⟨g, xs, rfl⟩) (by simp) (by simp) hc).elim


theorem comp_callv {dst : Option Tmp} {op' : Op} {type : TypeId} {pos : String} {after : Array Edge} {guard : Option (Nat × Bool)} {g : Opd} {xs : List Opd} {ops : Array Oper} (hc : compOp P ops ⟨dst, op', type, pos, after, guard⟩ = some (.callv g xs)) :
    ∃ (y : Operand) (args : Array Operand), ∃ ats, op' = .call ⟨.value y, args, ats⟩ ∧ opd P y = some g ∧ opds P args.toList = some xs := by
  have hc := (compOp_spec hc).resolve_right (fun h => by have := compY_isX h; simp [isX] at this)
  cases op' with
  | call c =>
    obtain ⟨callee, args, ats⟩ := c
    cases callee with
    | value y =>
      simp only [compOp0] at hc
      split at hc
      · rename_i ys hys
        split at hc
        · cases hc
        · split at hc
          · rename_i z hz; cases hc; exact ⟨y, args, ats, rfl, hz, hys⟩
          · cases hc
      · cases hc
    | invoke r m => simp [compOp0] at hc
    | builtin b => simp only [compOp0] at hc; exact (cBuiltin_no (.inr (.inl ⟨g, xs, rfl⟩)) hc).elim
  | defer c =>
    obtain ⟨callee, args, ats⟩ := c
    cases callee with
    | value f =>
      simp only [compOp0] at hc
      split at hc
      · split at hc
        · cases hc
        · split at hc <;> cases hc
      · cases hc
    | invoke r m => simp [compOp0] at hc
    | builtin b => simp [compOp0] at hc
  | _ => exact (compOp_no (.inr (.inl ⟨g, xs, rfl⟩)) (by simp) (by simp) hc).elim


theorem wanted_rel {n : Nat} {ops : Array Oper} {o : Oper} {ao : AOper} (hc : compOper P n ops o = some ao) (ht : ∀ t ∈ (match ao.guard with | some (t, _) => [t] | none => []), VR φ ((tm.get t).getD .undef) (a.tmps.getD t Go.undef)) :
    Region.wanted o (yielded ops a.tmps) = wantedA ao.guard tm := by
  unfold compOper at hc
  split at hc
  · split at hc
    · cases hc
    · split at hc
      · rename_i hg
        cases hc
        simp [Region.wanted, hg, wantedA]
      · rename_i j b hg
        split at hc
        · rename_i t hj
          cases hc
          have hv := ht t (by simp)
          simp only [Region.wanted, hg, wantedA, yielded, hj, Option.bind_some]
          have hval : ∀ c, a.tmps[t]? = some (.bool c) ↔ tm.get t = some (.bool c) := by
            intro c
            constructor
            · intro h
              have h1 : a.tmps.getD t Go.undef = .bool c := by rw [Array.getD_eq_getD_getElem?, h]; rfl
              rw [h1] at hv
              cases htm : tm.get t with
              | none => rw [htm] at hv; obtain ⟨C, hC, _⟩ := hv; cases hC
              | some u =>
                rw [htm] at hv
                simp only [Option.getD_some] at hv
                cases u with
                | bool d => have : Value.bool c = Value.bool d := hv; cases this; rfl
                | int k m => cases hv
                | str s => obtain ⟨bs, h, _⟩ := hv; cases h
                | ptr q => cases q with | none => cases hv | some q => obtain ⟨_, _, _, h⟩ := hv; cases h
                | slice q l e => cases q with | none => cases hv.2 | some q => obtain ⟨_, _, _, _, _, h, _⟩ := hv; cases h
                | map q => cases q with | none => cases hv | some q => obtain ⟨_, _, _, h⟩ := hv; cases h
                | func f x y => obtain ⟨_, _, h, _⟩ := hv; cases h
                | yield l => obtain ⟨_, _, _, h⟩ := hv; cases h
                | sliceC q l e c => obtain ⟨_, _, _, _, _, h, _⟩ := hv; cases h
                | mval nm t v => obtain ⟨_, h, _⟩ := hv; cases h
                | nilFunc => cases hv
                | iface t v => obtain ⟨_, h, _⟩ := hv; cases h
                | nilIface => cases hv
                | agg cs => obtain ⟨_, h, _⟩ := hv; cases h
                | tuple cs => obtain ⟨_, h, _⟩ := hv; cases h
            · intro h
              rw [h] at hv
              have hv : a.tmps.getD t Go.undef = .bool c := hv
              rw [Array.getD_eq_getD_getElem?] at hv
              cases hq : a.tmps[t]? with
              | none => rw [hq] at hv; simp [Go.undef] at hv
              | some u => rw [hq] at hv; simp at hv; rw [hv]
          cases htm : tm.get t with
          | none =>
            have : ∀ c, a.tmps[t]? ≠ some (.bool c) := fun c h => by have := (hval c).1 h; rw [htm] at this; cases this
            cases hq : a.tmps[t]? with
            | none => simp
            | some u => cases u <;> simp_all
          | some u =>
            cases u with
            | bool c => rw [(hval c).2 htm]; simp
            | _ =>
              have : ∀ c, a.tmps[t]? ≠ some (.bool c) := fun c h => by have := (hval c).1 h; rw [htm] at this; cases this
              cases hq : a.tmps[t]? with
              | none => simp
              | some u => cases u <;> simp_all
        · cases hc
  · cases hc
end AM
