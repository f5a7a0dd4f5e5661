import Derived.Test.YtlgmpheammbacaaGreatDoorRows
import Derived.Test.YtlgmpheammbacaaGreatDoorProg
import Derived.JoinedOf
import GoSem.ClaimSeven
set_option maxRecDepth 1000000
set_option maxHeartbeats 4000000
namespace Go.Proofs.YtlgmpheammbacaaGreatDoor
open Go
theorem arenaKept_j1 : Rows.arenaKeptRow.wf (OpenSpec.ofChange Rows.arenaKeptSpec) = true := by kernel_rfl
theorem arenaKept_j4 : Tryz.f3.params.all (Tryz.prog.readableRec ·) = true := by kernel_rfl
theorem arenaKept_j5 : namedTie Tryz.prog Rows.arenaKeptRow.named Rows.arenaKeptSpec.vars = true := by kernel_rfl
theorem arenaKept_j6 : (Rows.arenaKeptRow.stops == []) = true := by kernel_rfl
theorem arenaKept_j8 : (Rows.arenaKeptRow.knobs == []) = true := by kernel_rfl
theorem arenaKept_j10 : (Rows.arenaKeptRow.inPlace == Tryz.prog.inPlace 3) = true := by kernel_rfl
theorem arenaKept_j11 : (Rows.arenaKeptRow.unfollowed == Tryz.prog.unfollowed 3) = true := by kernel_rfl
end Go.Proofs.YtlgmpheammbacaaGreatDoor
