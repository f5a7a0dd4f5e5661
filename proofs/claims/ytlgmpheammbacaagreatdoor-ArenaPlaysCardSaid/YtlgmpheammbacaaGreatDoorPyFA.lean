import Derived.Test.YtlgmpheammbacaaGreatDoorRows
import Derived.Test.YtlgmpheammbacaaGreatDoorProg
import Derived.JoinedOf
import GoSem.ClaimSeven
set_option maxRecDepth 1000000
set_option maxHeartbeats 4000000
namespace Go.Proofs.YtlgmpheammbacaaGreatDoor
open Go
theorem yz : Rows.arenaPlaysRow.wf (OpenSpec.ofChange Rows.arenaPlaysSpec) = true := by kernel_rfl
theorem xM : Tryz.f8.params.all (Tryz.prog.readableRec ·) = true := by kernel_rfl
theorem yi : namedTie Tryz.prog Rows.arenaPlaysRow.named Rows.arenaPlaysSpec.vars = true := by kernel_rfl
theorem yf : (Rows.arenaPlaysRow.stops == []) = true := by kernel_rfl
theorem xX : (Rows.arenaPlaysRow.knobs == []) = true := by kernel_rfl
theorem wG : (Rows.arenaPlaysRow.inPlace == Tryz.prog.inPlace 8) = true := by kernel_rfl
theorem vg : (Rows.arenaPlaysRow.unfollowed == Tryz.prog.unfollowed 8) = true := by kernel_rfl
end Go.Proofs.YtlgmpheammbacaaGreatDoor
