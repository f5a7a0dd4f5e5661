import Derived.Test.YtlgmpheammbacaaGreatDoorRows
import Derived.Test.YtlgmpheammbacaaGreatDoorProg
import Derived.JoinedOf
import GoSem.ClaimSeven
set_option maxRecDepth 1000000
set_option maxHeartbeats 4000000
namespace Go.Proofs.YtlgmpheammbacaaGreatDoor
open Go
theorem uy : Rows.arenaReturnsRow.wf (OpenSpec.ofChange Rows.arenaReturnsSpec) = true := by kernel_rfl
theorem ug : Tryz.f9.params.all (Tryz.prog.readableRec ·) = true := by kernel_rfl
theorem ub : namedTie Tryz.prog Rows.arenaReturnsRow.named Rows.arenaReturnsSpec.vars = true := by kernel_rfl
theorem uu : (Rows.arenaReturnsRow.stops == []) = true := by kernel_rfl
theorem uk : (Rows.arenaReturnsRow.knobs == []) = true := by kernel_rfl
theorem su : (Rows.arenaReturnsRow.inPlace == Tryz.prog.inPlace 9) = true := by kernel_rfl
theorem tz : (Rows.arenaReturnsRow.unfollowed == Tryz.prog.unfollowed 9) = true := by kernel_rfl
end Go.Proofs.YtlgmpheammbacaaGreatDoor
