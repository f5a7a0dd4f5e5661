import Derived.Test.YtdnefddmghhgpaaGreatDoorRows
import Derived.Test.YtdnefddmghhgpaaGreatDoorProg
import Derived.JoinedOf
import GoSem.ClaimSeven
set_option maxRecDepth 1000000
set_option maxHeartbeats 4000000
namespace Go.Proofs.YtdnefddmghhgpaaGreatDoor
open Go
theorem dictKnown_j1 : Rows.dictKnownRow.wf (OpenSpec.ofChange Rows.dictKnownSpec) = true := by kernel_rfl
theorem dictKnown_j4 : Tryz.f5.params.all (Tryz.prog.readableRec ·) = true := by kernel_rfl
theorem dictKnown_j5 : namedTie Tryz.prog Rows.dictKnownRow.named Rows.dictKnownSpec.vars = true := by kernel_rfl
theorem dictKnown_j6 : (Rows.dictKnownRow.stops == []) = true := by kernel_rfl
theorem dictKnown_j8 : (Rows.dictKnownRow.knobs == []) = true := by kernel_rfl
theorem dictKnown_j10 : (Rows.dictKnownRow.inPlace == Tryz.prog.inPlace 5) = true := by kernel_rfl
theorem dictKnown_j11 : (Rows.dictKnownRow.unfollowed == Tryz.prog.unfollowed 5) = true := by kernel_rfl
end Go.Proofs.YtdnefddmghhgpaaGreatDoor
