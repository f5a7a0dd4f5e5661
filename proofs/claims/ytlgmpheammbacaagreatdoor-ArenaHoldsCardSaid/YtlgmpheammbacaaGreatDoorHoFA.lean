import Derived.Test.YtlgmpheammbacaaGreatDoorRows
import Derived.Test.YtlgmpheammbacaaGreatDoorProg
import Derived.JoinedOf
import GoSem.ClaimSeven
set_option maxRecDepth 1000000
set_option maxHeartbeats 4000000
namespace Go.Proofs.YtlgmpheammbacaaGreatDoor
open Go
theorem yd : Rows.arenaHoldsRow.wf (OpenSpec.ofChange Rows.arenaHoldsSpec) = true := by kernel_rfl
theorem yw : Tryz.f6.params.all (Tryz.prog.readableRec ·) = true := by kernel_rfl
theorem yp : namedTie Tryz.prog Rows.arenaHoldsRow.named Rows.arenaHoldsSpec.vars = true := by kernel_rfl
theorem yv : (Rows.arenaHoldsRow.stops == []) = true := by kernel_rfl
theorem xV : (Rows.arenaHoldsRow.knobs == []) = true := by kernel_rfl
theorem xp : (Rows.arenaHoldsRow.inPlace == Tryz.prog.inPlace 6) = true := by kernel_rfl
theorem vh : (Rows.arenaHoldsRow.unfollowed == Tryz.prog.unfollowed 6) = true := by kernel_rfl
end Go.Proofs.YtlgmpheammbacaaGreatDoor
