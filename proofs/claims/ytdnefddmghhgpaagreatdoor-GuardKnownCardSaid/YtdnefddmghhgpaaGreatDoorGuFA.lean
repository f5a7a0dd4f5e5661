import Derived.Test.YtdnefddmghhgpaaGreatDoorRows
import Derived.Test.YtdnefddmghhgpaaGreatDoorProg
import Derived.JoinedOf
import GoSem.ClaimSeven
set_option maxRecDepth 1000000
set_option maxHeartbeats 4000000
namespace Go.Proofs.YtdnefddmghhgpaaGreatDoor
open Go
theorem guardKnown_j1 : Rows.guardKnownRow.wf (OpenSpec.ofChange Rows.guardKnownSpec) = true := by kernel_rfl
theorem guardKnown_j4 : Tryz.f6.params.all (Tryz.prog.readableRec ·) = true := by kernel_rfl
theorem guardKnown_j5 : namedTie Tryz.prog Rows.guardKnownRow.named Rows.guardKnownSpec.vars = true := by kernel_rfl
theorem guardKnown_j6 : (Rows.guardKnownRow.stops == []) = true := by kernel_rfl
theorem guardKnown_j8 : (Rows.guardKnownRow.knobs == []) = true := by kernel_rfl
theorem guardKnown_j10 : (Rows.guardKnownRow.inPlace == Tryz.prog.inPlace 6) = true := by kernel_rfl
theorem guardKnown_j11 : (Rows.guardKnownRow.unfollowed == Tryz.prog.unfollowed 6) = true := by kernel_rfl
end Go.Proofs.YtdnefddmghhgpaaGreatDoor
