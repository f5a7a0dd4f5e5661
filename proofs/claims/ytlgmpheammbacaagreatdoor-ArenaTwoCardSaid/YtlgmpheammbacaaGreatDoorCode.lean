import Derived.Test.YtlgmpheammbacaaGreatDoorLink
set_option maxRecDepth 1000000
set_option maxHeartbeats 4000000
namespace Go.Proofs.YtlgmpheammbacaaGreatDoor
open AM Go
noncomputable section
section
variable {P : Program} {n : Nat} {a b : Code} {a' b' : AC}
theorem J1 (h : comp P n a = a') (k : comp P n b = b') : comp P n (.seq a b) = .seq a' b' := by rw [comp, h, k]
theorem H8 {c : Operand} {c' : AM.Tt} (e : UT P c = some c') (h : comp P n a = a') (k : comp P n b = b') : comp P n (.cond c a b) = .cond c' a' b' := by rw [comp, e, h, k]
theorem E1 {i : Nat} (h : comp P n a = a') : comp P n (.block i a) = .block i a' := by rw [comp, h]
theorem GN (h : comp P n a = a') : comp P n (.loop a) = .loop a' := by rw [comp, h]
theorem Eu (h : comp P n a = a') : comp P n (.scope a) = .scope a' := by rw [comp, h]
theorem MU {f : Func} {rs : List VH} (hn : (f.name = "runtime.NumGoroutine") = False) (hb : f.body = some b) (hr : jL P f.results.toList = some rs) (hc : comp P f.ntmps b = b') : mW P f = some ⟨rs, b'⟩ := by
  unfold mW
  rw [if_neg (by rw [hn]; exact id), hb, hr, ← hc]
theorem HA {i : Nat} {ops : Array Oper} {l : List eY} {r : List dY} (h : fI P n ops ops.toList = some l) (k : (Br (Xf [] ops.toList) l && qw 0 ops.toList) = true)
    (e : l.zipIdx.map (fun x => (⟨x.1, Kq (Xf [] ops.toList) l x.2, Kd (Xf [] ops.toList) l x.2⟩ : dY)) = r) : comp P n (.region i ops true) = .Yh r := by
  simp only [comp, if_true, rM, h, k, ← e]
end
abbrev lw (f : Func) {v : jj} (_ : mW Tryz.prog f = some v := by
  apply MU
  case hb => rfl
  with_reducible repeat' first | apply J1 | apply H8 | apply E1 | apply GN | apply Eu
  all_goals first
    | with_reducible apply HA
      case h => conv => lhs; cbv
      case k => kernel_rfl
      case e => conv => lhs; cbv
    | conv => lhs; cbv) : jj := v
abbrev lv (f : Func) {v : jj} (_ : mW Tryz.prog f = some v := by conv => lhs; cbv) : jj := v
end
end Go.Proofs.YtlgmpheammbacaaGreatDoor
