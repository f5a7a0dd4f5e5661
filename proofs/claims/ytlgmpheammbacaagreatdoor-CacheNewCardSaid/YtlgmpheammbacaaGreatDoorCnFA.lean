import Derived.Test.YtlgmpheammbacaaGreatDoorRows
import Derived.Test.YtlgmpheammbacaaGreatDoorProg
import Derived.JoinedOf
import GoSem.ClaimSeven
set_option maxRecDepth 1000000
set_option maxHeartbeats 4000000
namespace Go.Proofs.YtlgmpheammbacaaGreatDoor
open Go
theorem cacheNew_j1 : Rows.cacheNewRow.wf (OpenSpec.ofChange Rows.cacheNewSpec) = true := by kernel_rfl
theorem cacheNew_j4 : Tryz.f4.params.all (Tryz.prog.readableRec ·) = true := by kernel_rfl
theorem cacheNew_j5 : namedTie Tryz.prog Rows.cacheNewRow.named Rows.cacheNewSpec.vars = true := by kernel_rfl
theorem cacheNew_j6 : (Rows.cacheNewRow.stops == []) = true := by kernel_rfl
theorem cacheNew_j8 : (Rows.cacheNewRow.knobs == []) = true := by kernel_rfl
theorem cacheNew_j10 : (Rows.cacheNewRow.inPlace == Tryz.prog.inPlace 4) = true := by kernel_rfl
theorem cacheNew_j11 : (Rows.cacheNewRow.unfollowed == Tryz.prog.unfollowed 4) = true := by kernel_rfl
end Go.Proofs.YtlgmpheammbacaaGreatDoor
