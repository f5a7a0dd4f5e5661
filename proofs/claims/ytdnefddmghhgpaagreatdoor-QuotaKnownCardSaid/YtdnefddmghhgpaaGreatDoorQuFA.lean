import Derived.Test.YtdnefddmghhgpaaGreatDoorRows
import Derived.Test.YtdnefddmghhgpaaGreatDoorProg
import Derived.JoinedOf
import GoSem.ClaimSeven
set_option maxRecDepth 1000000
set_option maxHeartbeats 4000000
namespace Go.Proofs.YtdnefddmghhgpaaGreatDoor
open Go
theorem quotaKnown_j1 : Rows.quotaKnownRow.wf (OpenSpec.ofChange Rows.quotaKnownSpec) = true := by kernel_rfl
theorem quotaKnown_j4 : Tryz.f10.params.all (Tryz.prog.readableRec ·) = true := by kernel_rfl
theorem quotaKnown_j5 : namedTie Tryz.prog Rows.quotaKnownRow.named Rows.quotaKnownSpec.vars = true := by kernel_rfl
theorem quotaKnown_j6 : (Rows.quotaKnownRow.stops == []) = true := by kernel_rfl
theorem quotaKnown_j8 : (Rows.quotaKnownRow.knobs == []) = true := by kernel_rfl
theorem quotaKnown_j10 : (Rows.quotaKnownRow.inPlace == Tryz.prog.inPlace 10) = true := by kernel_rfl
theorem quotaKnown_j11 : (Rows.quotaKnownRow.unfollowed == Tryz.prog.unfollowed 10) = true := by kernel_rfl
end Go.Proofs.YtdnefddmghhgpaaGreatDoor
