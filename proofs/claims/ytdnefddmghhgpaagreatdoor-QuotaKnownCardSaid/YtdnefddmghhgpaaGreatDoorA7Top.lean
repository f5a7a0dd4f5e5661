import Derived.Test.YtdnefddmghhgpaaGreatDoorA7Ext
namespace AM
noncomputable section
open Go Go.RowKit
set_option linter.unusedVariables false
variable {P : Program} {φ : Phi} {w : World} {w0 : Base} {σ σ' : St} {G B : Nat}

def tl (l : List (Nat × V)) : T V := l.foldr (fun p t => t.set p.1 p.2) .nil
def updT {α : Type} (t : T α) : List (Nat × α) → T α
  | [] => t
  | p :: r => updT (t.set p.1 p.2) r
def vu (n : Int) : V := .int .u64 n
def vi (n : Int) : V := .int .i64 n
def vb (n : Int) : V := .int .u8 n
def vp (a o : Nat) : V := .ptr (some (a, o))
def updC (o : T Obj) : List (Nat × List (Nat × V)) → T Obj
  | [] => o
  | p :: r => updC (match o.get p.1 with
    | some (.cells a g n z t) => o.set p.1 (.cells a g n z (updT t p.2))
    | _ => o) r
def upd (σ : St) (next : Nat) (os : List (Nat × Obj)) (cs : List (Nat × List (Nat × V))) (gs : List (Nat × List Nat)) : St := ⟨next, updC (updT σ.objs os) cs, updT σ.grps gs⟩

/-- every outcome is the one that the memo says, but for the objects 'dead' -/
def checkK (Γ : T AF) (M : List Memo) (L : List LMemo) (f : Nat) (dead : List Nat) (m : Memo) : Bool :=
  match callF Γ M L f (.fn m.g) m.xs m.σ with
  | some l => l.all fun o => sameV o.1 m.v && sameSt { o.2 with objs := killAll dead o.2.objs } m.σ'
  | none => false
def checkM (Γ : T AF) (M : List Memo) (L : List LMemo) (f : Nat) (m : Memo) : Bool := checkK Γ M L f [] m

def MemosOk (P : Program) (G : Nat) (M : List Memo) : Prop := ∀ m ∈ M, MemoOk P G m
theorem MemosOk.nil : MemosOk P G [] := fun m h => by simp at h
theorem MemosOk.cons {m : Memo} {M : List Memo} (h : MemoOk P G m) (k : MemosOk P G M) : MemosOk P G (m :: M) := by
  intro x hx
  rcases List.mem_cons.1 hx with rfl | hx
  · exact h
  · exact k x hx

theorem memo_of_checkK {Γ : T AF} {M : List Memo} {L : List LMemo} (hmix : P.follows .mixedOrders = true) {G : Nat} (hGP : P.globals.size ≤ G) (hΓ : EnvOk P G Γ) (hM : MemosOk P G M) (hL : LoopsOk P G L) {f : Nat} {dead : List Nat} {m : Memo} {fn : AFunc} (hg : Γ.get m.g = some (.code fn))
    (h : checkK Γ M L f dead m = true) : MemoOk P G m := by
  unfold checkK at h
  split at h
  · rename_i outs hc
    refine memo_ok Γ M L hL hΓ hM hGP (fun call hcall => draw_sound hmix hGP hcall) hg hc (dead := dead) (fun o ho => ?_)
    have := List.all_eq_true.1 h o ho
    simp only [Bool.and_eq_true] at this
    exact ⟨sameV_eq _ _ this.1, sameSt_eq _ _ this.2⟩
  · cases h

theorem memo_of_check {Γ : T AF} {M : List Memo} {L : List LMemo} (hmix : P.follows .mixedOrders = true) {G : Nat} (hGP : P.globals.size ≤ G) (hΓ : EnvOk P G Γ) (hM : MemosOk P G M) (hL : LoopsOk P G L) {f : Nat} {m : Memo} {fn : AFunc} (hg : Γ.get m.g = some (.code fn))
    (h : checkM Γ M L f m = true) : MemoOk P G m := memo_of_checkK hmix hGP hΓ hM hL hg h

theorem LoopsOk.nil : LoopsOk P G [] := fun m h => by simp at h
theorem LoopsOk.cons {m : LMemo} {L : List LMemo} (h : LoopOk P G m) (k : LoopsOk P G L) : LoopsOk P G (m :: L) := by
  intro x hx
  rcases List.mem_cons.1 hx with rfl | hx
  · exact h
  · exact k x hx

def checkL (Γ : T AF) (M : List Memo) (L : List LMemo) (f : Nat) (dead : List Nat) (m : LMemo) : Bool :=
  match exec (callF Γ M L f) L f (.loop m.b) m.fr m.σ with
  | some l => l.all fun o => decide (o.1 = m.ex) && (sameFr o.2.1 m.fr' && sameSt { o.2.2 with objs := killAll dead o.2.2.objs } m.σ')
  | none => false

theorem loop_of_check {Γ : T AF} {M : List Memo} {L : List LMemo} (hmix : P.follows .mixedOrders = true) {G : Nat} (hGP : P.globals.size ≤ G) (hΓ : EnvOk P G Γ) (hM : MemosOk P G M) (hL : LoopsOk P G L) {f : Nat} {dead : List Nat} {m : LMemo}
    (h : checkL Γ M L f dead m = true) : LoopOk P G m := by
  unfold checkL at h
  split at h
  · rename_i outs hc
    intro rd n x hx B w0 φ a w hP hR hF b k cs hb
    obtain ⟨i1, _⟩ := callF_sound Γ M L hL hΓ hM hGP (fun call hcall => draw_sound hmix hGP hcall) f
    rw [← hx] at hc
    obtain ⟨o, ho, a', w', φ', h1, h2, h3, h4⟩ := loop_sound i1 hL (draw_sound hmix hGP i1.det) hGP hP hb f hc hR hF
    have := List.all_eq_true.1 h o ho
    simp only [Bool.and_eq_true, decide_eq_true_eq] at this
    obtain ⟨e1, e2, e3⟩ := this
    have e2 := sameFr_eq _ _ e2
    have e3 := sameSt_eq _ _ e3
    exact ⟨a', w', φ', h1, e3 ▸ h2.kill dead, e2 ▸ h3, e1 ▸ h4⟩
  · cases h

/-! ### the loops of a code, in the order of the text -/
def loopsOf : AC → List AC
  | .seq a b => loopsOf a ++ loopsOf b
  | .cond _ a b => loopsOf a ++ loopsOf b
  | .block _ b => loopsOf b
  | .loop b => b :: loopsOf b
  | .scope b => loopsOf b
  | .rangeFunc _ _ a b => loopsOf a ++ loopsOf b
  | _ => []
def loopNo (f : AFunc) (k : Nat) : AC := ((loopsOf f.body)[k]?).getD .skip

/-! ### the table -/
theorem EnvOk.nil : EnvOk P G .nil := ⟨fun g fn h => by simp [T.get_nil] at h, fun g e xs σ v σ' h => by simp [T.get_nil] at h⟩
theorem EnvOk.code' {Γ : T AF} (h : EnvOk P G Γ) {g : FuncId} {f : Func} {fn : AFunc} (hf : P.funcs[g]? = some f) (hc : compFn P f = some fn) : EnvOk P G (Γ.set g (.code fn)) := by
  refine ⟨fun x fn' hx => ?_, fun x e xs σ v σ' hx => ?_⟩
  · rw [T.get_set] at hx
    by_cases c : x = g
    · subst c; rw [if_pos rfl] at hx; simp at hx; subst hx; exact ⟨f, hf, hc⟩
    · rw [if_neg c] at hx; exact h.code x fn' hx
  · rw [T.get_set] at hx
    by_cases c : x = g
    · subst c; rw [if_pos rfl] at hx; simp at hx
    · rw [if_neg c] at hx; exact h.ext x e xs σ v σ' hx
theorem EnvOk.ext' {Γ : T AF} (h : EnvOk P G Γ) {g : FuncId} {e : Ext} (hc : ∀ xs σ v σ', extCall e xs σ = some (v, σ') → Plain1 P G g xs σ v σ' ∧ (e = .unlock → Def1 P G g xs σ v σ')) : EnvOk P G (Γ.set g (.ext e)) := by
  refine ⟨fun x fn' hx => ?_, fun x e' xs σ v σ' hx => ?_⟩
  · rw [T.get_set] at hx
    by_cases c : x = g
    · subst c; rw [if_pos rfl] at hx; simp at hx
    · rw [if_neg c] at hx; exact h.code x fn' hx
  · rw [T.get_set] at hx
    by_cases c : x = g
    · subst c; rw [if_pos rfl] at hx; simp at hx; subst hx; exact hc xs σ v σ'
    · rw [if_neg c] at hx; exact h.ext x e' xs σ v σ' hx
end
end AM
