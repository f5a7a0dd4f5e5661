import Derived.Test.YtlgmpheammbacaaGreatDoorSmc
set_option linter.unusedVariables false
namespace AM
noncomputable section
open Go Go.RowKit
variable {P:Program} {φ:Phi} {w:World} {w0:Base} {σ σ':St} {G B:Nat}
def updT {α:Type} (t:T α):List (Nat × α) -> T α
 | []=>t
 |p :: r=>updT (t.set p.1 p.2) r
def updC (o:T Obj):List (Nat × List (Nat × V)) -> T Obj
 | []=>o
 |p :: r=>updC (match o.get p.1 with
  |some (.cells a g n z t)=>o.set p.1 (.cells a g n z (updT t p.2))
  |_=>o) r
def upd (σ:St) (next:Nat) (os:List (Nat × Obj)) (cs:List (Nat × List (Nat × V))) (gs:List (Nat × List Nat)):St:=⟨next,updC (updT σ.objs os) cs,updT σ.grps gs⟩
theorem LoopsOk.nil:LoopsOk P G []:=fun m h=>by simp at h
def loopsOf:AC -> List AC
 | .seq a b=>loopsOf a++loopsOf b
 | .cond _ a b=>loopsOf a++loopsOf b
 | .block _ b=>loopsOf b
 | .loop b=>b :: loopsOf b
 | .scope b=>loopsOf b
 |_=>[]
def loopNo (f:AFunc) (k:Nat):AC:=((loopsOf f.body)[k]?).getD .skip
theorem EnvOk.nil:EnvOk P G .nil:=⟨fun g fn h=>by simp [T.get_nil] at h,fun g e xs σ v σ' h=>by simp [T.get_nil] at h⟩
theorem EnvOk.code' {Γ:T AF} (h:EnvOk P G Γ) {g:FuncId} {f:Func} {fn:AFunc} (hf:P.funcs[g]?=some f) (hc:compFn P f=some fn):EnvOk P G (Γ.set g (.code fn)):=by
 refine ⟨fun x fn' hx=>?_,fun x e xs σ v σ' hx=>?_⟩
 ·rw [T.get_set] at hx
  by_cases c:x=g
  ·subst c;rw [if_pos rfl] at hx;simp at hx;subst hx;exact ⟨f,hf,hc⟩
  ·rw [if_neg c] at hx;exact h.code x fn' hx
 ·rw [T.get_set] at hx
  by_cases c:x=g
  ·subst c;rw [if_pos rfl] at hx;simp at hx
  ·rw [if_neg c] at hx;exact h.ext x e xs σ v σ' hx
theorem EnvOk.ext' {Γ:T AF} (h:EnvOk P G Γ) {g:FuncId} {e:Ext} (hc:∀ xs σ v σ',extCall e xs σ=some (v,σ') -> Plain1 P G g xs σ v σ' /\ (e=.unlock -> Def1 P G g xs σ v σ')):EnvOk P G (Γ.set g (.ext e)):=by
 refine ⟨fun x fn' hx=>?_,fun x e' xs σ v σ' hx=>?_⟩
 ·rw [T.get_set] at hx
  by_cases c:x=g
  ·subst c;rw [if_pos rfl] at hx;simp at hx
  ·rw [if_neg c] at hx;exact h.code x fn' hx
 ·rw [T.get_set] at hx
  by_cases c:x=g
  ·subst c;rw [if_pos rfl] at hx;simp at hx;subst hx;exact hc xs σ v σ'
  ·rw [if_neg c] at hx;exact h.ext x e' xs σ v σ' hx
end
end AM
