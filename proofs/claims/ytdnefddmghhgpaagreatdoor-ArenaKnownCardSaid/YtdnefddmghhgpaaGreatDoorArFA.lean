import Derived.Test.YtdnefddmghhgpaaGreatDoorRows
import Derived.Test.YtdnefddmghhgpaaGreatDoorProg
import Derived.JoinedOf
import GoSem.ClaimSeven
set_option maxRecDepth 1000000
set_option maxHeartbeats 4000000
namespace Go.Proofs.YtdnefddmghhgpaaGreatDoor
open Go
theorem arenaKnown_j1 : Rows.arenaKnownRow.wf (OpenSpec.ofChange Rows.arenaKnownSpec) = true := by kernel_rfl
theorem arenaKnown_j4 : Tryz.f3.params.all (Tryz.prog.readableRec ·) = true := by kernel_rfl
theorem arenaKnown_j5 : namedTie Tryz.prog Rows.arenaKnownRow.named Rows.arenaKnownSpec.vars = true := by kernel_rfl
theorem arenaKnown_j6 : (Rows.arenaKnownRow.stops == []) = true := by kernel_rfl
theorem arenaKnown_j8 : (Rows.arenaKnownRow.knobs == []) = true := by kernel_rfl
theorem arenaKnown_j10 : (Rows.arenaKnownRow.inPlace == Tryz.prog.inPlace 3) = true := by kernel_rfl
theorem arenaKnown_j11 : (Rows.arenaKnownRow.unfollowed == Tryz.prog.unfollowed 3) = true := by kernel_rfl
end Go.Proofs.YtdnefddmghhgpaaGreatDoor
