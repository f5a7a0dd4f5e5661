import Derived.Test.YtdnefddmghhgpaaGreatDoorRows
import Derived.Test.YtdnefddmghhgpaaGreatDoorProg
import Derived.JoinedOf
import GoSem.ClaimSeven
set_option maxRecDepth 1000000
set_option maxHeartbeats 4000000
namespace Go.Proofs.YtdnefddmghhgpaaGreatDoor
open Go
theorem traceKnown_j1 : Rows.traceKnownRow.wf (OpenSpec.ofChange Rows.traceKnownSpec) = true := by kernel_rfl
theorem traceKnown_j4 : Tryz.f8.params.all (Tryz.prog.readableRec ·) = true := by kernel_rfl
theorem traceKnown_j5 : namedTie Tryz.prog Rows.traceKnownRow.named Rows.traceKnownSpec.vars = true := by kernel_rfl
theorem traceKnown_j6 : (Rows.traceKnownRow.stops == []) = true := by kernel_rfl
theorem traceKnown_j8 : (Rows.traceKnownRow.knobs == []) = true := by kernel_rfl
theorem traceKnown_j10 : (Rows.traceKnownRow.inPlace == Tryz.prog.inPlace 8) = true := by kernel_rfl
theorem traceKnown_j11 : (Rows.traceKnownRow.unfollowed == Tryz.prog.unfollowed 8) = true := by kernel_rfl
end Go.Proofs.YtdnefddmghhgpaaGreatDoor
