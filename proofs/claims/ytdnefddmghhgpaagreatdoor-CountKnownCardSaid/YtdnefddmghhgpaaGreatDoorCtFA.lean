import Derived.Test.YtdnefddmghhgpaaGreatDoorRows
import Derived.Test.YtdnefddmghhgpaaGreatDoorProg
import Derived.JoinedOf
import GoSem.ClaimSeven
set_option maxRecDepth 1000000
set_option maxHeartbeats 4000000
namespace Go.Proofs.YtdnefddmghhgpaaGreatDoor
open Go
theorem countKnown_j1 : Rows.countKnownRow.wf (OpenSpec.ofChange Rows.countKnownSpec) = true := by kernel_rfl
theorem countKnown_j4 : Tryz.f9.params.all (Tryz.prog.readableRec ·) = true := by kernel_rfl
theorem countKnown_j5 : namedTie Tryz.prog Rows.countKnownRow.named Rows.countKnownSpec.vars = true := by kernel_rfl
theorem countKnown_j6 : (Rows.countKnownRow.stops == []) = true := by kernel_rfl
theorem countKnown_j8 : (Rows.countKnownRow.knobs == []) = true := by kernel_rfl
theorem countKnown_j10 : (Rows.countKnownRow.inPlace == Tryz.prog.inPlace 9) = true := by kernel_rfl
theorem countKnown_j11 : (Rows.countKnownRow.unfollowed == Tryz.prog.unfollowed 9) = true := by kernel_rfl
end Go.Proofs.YtdnefddmghhgpaaGreatDoor
