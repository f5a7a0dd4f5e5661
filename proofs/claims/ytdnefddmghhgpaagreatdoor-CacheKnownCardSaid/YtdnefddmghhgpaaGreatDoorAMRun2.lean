import Derived.Test.YtdnefddmghhgpaaGreatDoorAMRun1
namespace AM
open Go Go.RowKit
set_option linter.unusedVariables false
set_option linter.unusedSimpArgs false
variable {P : Program} {φ : Phi} {tm : T V} {a : Act} {w : World} {w0 : Base} {σ σ' : St} {G B : Nat} {call : CallT}

theorem compOper_spec {n : Nat} {ops : Array Oper} {o : Oper} {ao : AOper} (hc : compOper P n ops o = some ao) : compOp P o = some ao.op ∧ ao.dst = o.dst ∧ okDst n o.dst := by
  unfold compOper at hc
  split at hc
  · rename_i hd
    have hok : okDst n o.dst := by
      intro t ht; rw [ht] at hd; simpa [dstOk] using hd
    split at hc
    · cases hc
    · rename_i op hop
      split at hc
      · cases hc; exact ⟨hop, rfl, hok⟩
      · split at hc
        · cases hc; exact ⟨hop, rfl, hok⟩
        · cases hc
  · cases hc

theorem put_self_defers (a : Act) (d : Option Tmp) (x : Value) : ({ a with defers := a.defers } : Act).put d x = a.put d x := rfl

theorem runOps_sound (hcall : CallSound P G call) (hGP : G = P.globals.size) {n : Nat} {ops : Array Oper} : ∀ (l : List Oper) (al : List AOper), compOpers P n ops l = some al → ∀ {fr fr' : Fr} {σ σ' : St}, runOps call al fr σ = some (fr', σ') →
    ∀ {φ : Phi} {a : Act} {w : World}, Rel G B w0 φ σ w → FR n φ fr a → ∀ {Q : Exit → Act → World → Prop}, (∀ φ' a' w', φ.le φ' → Rel G B w0 φ' σ' w' → FR n φ' fr' a' → Q .normal a' w') → wpList P ops Q l a w
  | [], al, hc, fr, fr', σ, σ', hr, φ, a, w, hR, hF, Q, hQ => by
    simp [compOpers] at hc; subst hc
    simp [runOps] at hr; obtain ⟨rfl, rfl⟩ := hr
    exact hQ φ a w (Phi.le.refl _) hR hF
  | o :: r, al, hc, fr, fr', σ, σ', hr, φ, a, w, hR, hF, Q, hQ => by
    simp only [compOpers] at hc
    split at hc
    · rename_i ao al' ho hr'
      simp at hc; subst hc
      obtain ⟨h1, h2, h3⟩ := compOper_spec ho
      have hw := wanted_rel (tm := fr.tmps) (a := a) ho (fun t _ => hF.ts t)
      simp only [runOps] at hr
      unfold wpList
      rw [hw]
      split at hr
      · rename_i hwant
        rw [if_pos hwant]
        left
        split at hr
        · rename_i v ds σ1 hev
          refine evalOp_sound hcall h1 hev hGP (hF.tr _) hF.ds hR ?_
          intro φ1 x w1 dfs hle hR1 hvx hds
          have hF1 := (hF.mono hle).put (d := o.dst) h3 hvx hds
          rw [h2] at hr
          exact runOps_sound hcall hGP r al' hr' hr hR1 hF1 (fun φ' a' w' hle' => hQ φ' a' w' (hle.trans hle'))
        · cases hr
      · rename_i hwant
        rw [if_neg hwant]
        have hF1 := hF.put (d := o.dst) h3 VR.undef hF.ds
        rw [h2] at hr
        exact runOps_sound hcall hGP r al' hr' hr hR hF1 hQ
    · cases hc

/-! ### control -/
def toExit : Ex → Exit
  | .normal => .normal
  | .exit id => .exit id
  | .goto l => .goto l
  | .ret => .ret

def OkB (b : Frame) (cs : List Frame) : Prop := ∀ fr : Frame, fr.kind = b.kind → tryRecover fr cs = none

/-- what a piece of code comes to -/
def Come (P : Program) (G B : Nat) (w0 : Base) (n : Nat) (φ : Phi) (ex : Ex) (fr' : Fr) (σ' : St) (m : Machine) (b : Frame) (k : List Item) (cs : List Frame) : Prop :=
  ∃ a' w' φ', φ.le φ' ∧ Rel G B w0 φ' σ' w' ∧ FR n φ' fr' a' ∧ Arrives P m b k cs (toExit ex) a' w'

theorem Come.of_steps {n : Nat} {ex : Ex} {fr' : Fr} {m m1 : Machine} {b : Frame} {k : List Item} {cs : List Frame} (h : Steps P m m1) (c : Come P G B w0 n φ ex fr' σ' m1 b k cs) : Come P G B w0 n φ ex fr' σ' m b k cs := by
  obtain ⟨a', w', φ', h1, h2, h3, h4⟩ := c
  exact ⟨a', w', φ', h1, h2, h3, Arrives.of_steps h h4⟩

theorem Come.mono {n : Nat} {ψ : Phi} {ex : Ex} {fr' : Fr} {m : Machine} {b : Frame} {k : List Item} {cs : List Frame} (h : φ.le ψ) (c : Come P G B w0 n ψ ex fr' σ' m b k cs) : Come P G B w0 n φ ex fr' σ' m b k cs := by
  obtain ⟨a', w', φ', h1, h2⟩ := c
  exact ⟨a', w', φ', h.trans h1, h2⟩

theorem Come.pass {n : Nat} {ex : Ex} {fr' : Fr} {m : Machine} {b : Frame} {x : Item} {k : List Item} {cs : List Frame} (hx : x.plain = true) (hne : ex ≠ .normal) (c : Come P G B w0 n φ ex fr' σ' m b (x :: k) cs) : Come P G B w0 n φ ex fr' σ' m b k cs := by
  obtain ⟨a', w', φ', h1, h2, h3, h4⟩ := c
  exact ⟨a', w', φ', h1, h2, h3, Arrives.pass hx (fun _ _ => .inl (by cases ex <;> simp_all [toExit])) h4⟩

theorem come_of_wp {n : Nat} {c : Code} {fr' : Fr} (h : c.wp P (fun e a' w' => e = .normal ∧ ∃ φ', φ.le φ' ∧ Rel G B w0 φ' σ' w' ∧ FR n φ' fr' a') a w) (b : Frame) (k : List Item) (cs : List Frame) :
    Come P G B w0 n φ .normal fr' σ' (lone (b.at a (.code c :: k)) cs w) b k cs := by
  obtain ⟨e, a', w', ⟨rfl, φ', h1, h2, h3⟩, h4⟩ := h b k cs
  exact ⟨a', w', φ', h1, h2, h3, h4⟩

theorem findLabel_comp (n : Nat) : ∀ (c : Code) (l : Nat), findLabel (comp P n c) l = (Go.findLabel c l).map (comp P n)
  | .seq x y, l => by
    simp only [comp, findLabel, Go.findLabel, findLabel_comp n x l, findLabel_comp n y l]
    cases Go.findLabel x l <;> simp [comp]
  | .label l', l => by simp only [comp, findLabel, Go.findLabel]; split <;> simp [comp]
  | .region id ops d, l => by
    simp only [comp, Go.findLabel]
    repeat' (split)
    all_goals simp [findLabel]
  | .cond c x y, l => by simp only [comp, Go.findLabel]; split <;> simp [findLabel]
  | .skip, l | .block _ _, l | .loop _, l | .rangeFunc .., l | .exit _, l | .scope _, l | .goto _, l | .ret, l | .refuse _, l => by simp [comp, findLabel, Go.findLabel]
end AM
