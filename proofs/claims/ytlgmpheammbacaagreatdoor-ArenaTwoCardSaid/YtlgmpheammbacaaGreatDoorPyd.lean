import Derived.Test.YtlgmpheammbacaaGreatDoorPyc
set_option linter.all false
namespace AM
noncomputable section
open Go Go.RowKit
variable {P:Program} {φ:TF} {w:World} {w0:lK} {σ σ':St} {G B:Nat}
def tl(l:List (Nat×V)):T V:=l.foldr (fun p t=>t.set p.1 p.2) .nil
def Ml{a:Type}(t:T a):List (Nat×a)->T a
 | []=>t
 |p ::r=>Ml (t.set p.1 p.2) r
def vb(n:Int):V:=.int .u8 n
def QR(o:T Obj):List (Nat×List (Nat×V))->T Obj
 | []=>o
 |p ::r=>QR (match o.get p.1 with
  |some (.cells a g n z t)=>o.set p.1 (.cells a g n z (Ml t p.2))
  |_=>o) r
def TN(σ:St)(next:Nat)(os:List (Nat×Obj))(cs:List (Nat×List (Nat×V)))(a:List (Nat×List Nat)):St:=⟨next,QR (Ml σ.Tq os) cs,Ml σ.TX a⟩
def mR.nil:mR P G []:=fun m h=>by simp at h
def jN:AC->List AC
 | .seq a b=>jN a++jN b
 | .cond _ a b=>jN a++jN b
 | .block _ b=>jN b
 | .loop b=>b ::jN b
 | .scope b=>jN b
 |_=>[]
def Am(f:jj)(k:Nat):AC:=((jN f.body)[k]?).getD .skip
def gh.nil:gh P G .nil:=⟨fun g a h=>by simp[T.Xm]at h,fun g e xs σ v σ' h=>by simp[T.Xm]at h⟩
def gh.Rj{Γ:T AF}(h:gh P G Γ){g:FuncId}{f:Func}{b:jj}(i:P.funcs[g]?=some f)(d:mW P f=some b):gh P G (Γ.set g (.code b)):=by
 refine⟨fun x a hx=>?_,fun x e xs σ v σ' hx=>?_⟩
 .rw[T.aJ]at hx;by_cases c:x=g
  .subst c;rw[Ti rfl]at hx;simp at hx;subst hx;exact⟨f,i,d⟩
  rw[Tg c]at hx;exact h.code x a hx
 rw[T.aJ]at hx;by_cases c:x=g
 .subst c;rw[Ti rfl]at hx;simp at hx
 rw[Tg c]at hx;exact h.ext x e xs σ v σ' hx
def gh.ext'{Γ:T AF}(h:gh P G Γ){g:FuncId}{e:TP}(d:∀xs σ v σ',dA e xs σ=some (v,σ')->mA P G g xs σ v σ'∧(e=.unlock->DH P G g xs σ v σ')):gh P G (Γ.set g (.ext e)):=by
 refine⟨fun x a hx=>?_,fun x b xs σ v σ' hx=>?_⟩
 .rw[T.aJ]at hx;by_cases c:x=g
  .subst c;rw[Ti rfl]at hx;simp at hx
  rw[Tg c]at hx;exact h.code x a hx
 rw[T.aJ]at hx;by_cases c:x=g
 .subst c;rw[Ti rfl]at hx;simp at hx;subst hx;exact d xs σ v σ'
 rw[Tg c]at hx;exact h.ext x b xs σ v σ' hx
end
end AM
