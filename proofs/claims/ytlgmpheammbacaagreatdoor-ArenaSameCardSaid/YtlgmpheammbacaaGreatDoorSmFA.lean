import Derived.Test.YtlgmpheammbacaaGreatDoorRows
import Derived.Test.YtlgmpheammbacaaGreatDoorProg
import Derived.JoinedOf
import GoSem.ClaimSeven
set_option maxRecDepth 1000000
set_option maxHeartbeats 4000000
namespace Go.Proofs.YtlgmpheammbacaaGreatDoor
open Go
theorem arenaSame_j1 : Rows.arenaSameRow.wf (OpenSpec.ofChange Rows.arenaSameSpec) = true := by kernel_rfl
theorem arenaSame_j4 : Tryz.f5.params.all (Tryz.prog.readableRec ·) = true := by kernel_rfl
theorem arenaSame_j5 : namedTie Tryz.prog Rows.arenaSameRow.named Rows.arenaSameSpec.vars = true := by kernel_rfl
theorem arenaSame_j6 : (Rows.arenaSameRow.stops == []) = true := by kernel_rfl
theorem arenaSame_j8 : (Rows.arenaSameRow.knobs == []) = true := by kernel_rfl
theorem arenaSame_j10 : (Rows.arenaSameRow.inPlace == Tryz.prog.inPlace 5) = true := by kernel_rfl
theorem arenaSame_j11 : (Rows.arenaSameRow.unfollowed == Tryz.prog.unfollowed 5) = true := by kernel_rfl
end Go.Proofs.YtlgmpheammbacaaGreatDoor
