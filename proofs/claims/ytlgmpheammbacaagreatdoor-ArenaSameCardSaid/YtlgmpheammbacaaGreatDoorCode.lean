import Derived.Test.YtlgmpheammbacaaGreatDoorLink
set_option maxRecDepth 1000000
set_option maxHeartbeats 4000000
namespace Go.Proofs.YtlgmpheammbacaaGreatDoor
open AM Go
noncomputable section
section
variable {P : Program} {n : Nat} {a b : Code} {a' b' : AC}
theorem comp_seq (h : comp P n a = a') (k : comp P n b = b') : comp P n (.seq a b) = .seq a' b' := by rw [comp, h, k]
theorem comp_cond {c : Operand} {c' : AM.Opd} (e : opd P c = some c') (h : comp P n a = a') (k : comp P n b = b') : comp P n (.cond c a b) = .cond c' a' b' := by rw [comp, e, h, k]
theorem comp_block {i : Nat} (h : comp P n a = a') : comp P n (.block i a) = .block i a' := by rw [comp, h]
theorem comp_loop (h : comp P n a = a') : comp P n (.loop a) = .loop a' := by rw [comp, h]
theorem comp_scope (h : comp P n a = a') : comp P n (.scope a) = .scope a' := by rw [comp, h]
theorem comp_fn {f : Func} {rs : List Res} (hn : (f.name = "runtime.NumGoroutine") = False) (hb : f.body = some b) (hr : compRes P f.results.toList = some rs) (hc : comp P f.ntmps b = b') : compFn P f = some ⟨rs, b'⟩ := by
  unfold compFn
  rw [if_neg (by rw [hn]; exact id), hb, hr, ← hc]
theorem comp_draw {i : Nat} {ops : Array Oper} {l : List AOper} {r : List DOper} (h : compOpers P n ops ops.toList = some l) (k : (drawOk (befs [] ops.toList) l && edgesOk 0 ops.toList) = true)
    (e : l.zipIdx.map (fun x => (⟨x.1, loOf (befs [] ops.toList) l x.2, hiOf (befs [] ops.toList) l x.2⟩ : DOper)) = r) : comp P n (.region i ops true) = .draw r := by
  simp only [comp, if_true, compDraw, h, k, ← e]
end
abbrev lw (f : Func) {v : AFunc} (_ : compFn Tryz.prog f = some v := by
  apply comp_fn
  case hb => rfl
  with_reducible repeat' first | apply comp_seq | apply comp_cond | apply comp_block | apply comp_loop | apply comp_scope
  all_goals first
    | with_reducible apply comp_draw
      case h => conv => lhs; cbv
      case k => kernel_rfl
      case e => conv => lhs; cbv
    | conv => lhs; cbv) : AFunc := v
abbrev lv (f : Func) {v : AFunc} (_ : compFn Tryz.prog f = some v := by conv => lhs; cbv) : AFunc := v
end
end Go.Proofs.YtlgmpheammbacaaGreatDoor
