import Derived.Test.YtdnefddmghhgpaaGreatDoorRows
import Derived.Test.YtdnefddmghhgpaaGreatDoorProg
import Derived.JoinedOf
import GoSem.ClaimSeven
set_option maxRecDepth 1000000
set_option maxHeartbeats 4000000
namespace Go.Proofs.YtdnefddmghhgpaaGreatDoor
open Go
theorem marchKnown_j1 : Rows.marchKnownRow.wf (OpenSpec.ofChange Rows.marchKnownSpec) = true := by kernel_rfl
theorem marchKnown_j4 : Tryz.f7.params.all (Tryz.prog.readableRec ·) = true := by kernel_rfl
theorem marchKnown_j5 : namedTie Tryz.prog Rows.marchKnownRow.named Rows.marchKnownSpec.vars = true := by kernel_rfl
theorem marchKnown_j6 : (Rows.marchKnownRow.stops == []) = true := by kernel_rfl
theorem marchKnown_j8 : (Rows.marchKnownRow.knobs == []) = true := by kernel_rfl
theorem marchKnown_j10 : (Rows.marchKnownRow.inPlace == Tryz.prog.inPlace 7) = true := by kernel_rfl
theorem marchKnown_j11 : (Rows.marchKnownRow.unfollowed == Tryz.prog.unfollowed 7) = true := by kernel_rfl
end Go.Proofs.YtdnefddmghhgpaaGreatDoor
