import Derived.Test.YtdnefddmghhgpaaGreatDoorRows
import Derived.Test.YtdnefddmghhgpaaGreatDoorProg
import Derived.JoinedOf
import GoSem.ClaimSeven
set_option maxRecDepth 1000000
set_option maxHeartbeats 4000000
namespace Go.Proofs.YtdnefddmghhgpaaGreatDoor
open Go
theorem cacheKnown_j1 : Rows.cacheKnownRow.wf (OpenSpec.ofChange Rows.cacheKnownSpec) = true := by kernel_rfl
theorem cacheKnown_j4 : Tryz.f4.params.all (Tryz.prog.readableRec ·) = true := by kernel_rfl
theorem cacheKnown_j5 : namedTie Tryz.prog Rows.cacheKnownRow.named Rows.cacheKnownSpec.vars = true := by kernel_rfl
theorem cacheKnown_j6 : (Rows.cacheKnownRow.stops == []) = true := by kernel_rfl
theorem cacheKnown_j8 : (Rows.cacheKnownRow.knobs == []) = true := by kernel_rfl
theorem cacheKnown_j10 : (Rows.cacheKnownRow.inPlace == Tryz.prog.inPlace 4) = true := by kernel_rfl
theorem cacheKnown_j11 : (Rows.cacheKnownRow.unfollowed == Tryz.prog.unfollowed 4) = true := by kernel_rfl
end Go.Proofs.YtdnefddmghhgpaaGreatDoor
