import Derived.Test.YtlgmpheammbacaaGreatDoorRows
import Derived.Test.YtlgmpheammbacaaGreatDoorProg
import Derived.JoinedOf
import GoSem.ClaimSeven
set_option maxRecDepth 1000000
set_option maxHeartbeats 4000000
namespace Go.Proofs.YtlgmpheammbacaaGreatDoor
open Go
theorem AN : Rows.arenaAsksRow.wf (OpenSpec.ofChange Rows.arenaAsksSpec) = true := by kernel_rfl
theorem Bw : Tryz.f7.params.all (Tryz.prog.readableRec ·) = true := by kernel_rfl
theorem As : namedTie Tryz.prog Rows.arenaAsksRow.named Rows.arenaAsksSpec.vars = true := by kernel_rfl
theorem Bs : (Rows.arenaAsksRow.stops == []) = true := by kernel_rfl
theorem AQ : (Rows.arenaAsksRow.knobs == []) = true := by kernel_rfl
theorem yo : (Rows.arenaAsksRow.inPlace == Tryz.prog.inPlace 7) = true := by kernel_rfl
theorem xS : (Rows.arenaAsksRow.unfollowed == Tryz.prog.unfollowed 7) = true := by kernel_rfl
end Go.Proofs.YtlgmpheammbacaaGreatDoor
