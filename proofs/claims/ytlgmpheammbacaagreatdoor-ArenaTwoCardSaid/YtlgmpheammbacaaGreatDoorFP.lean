import Derived.Test.YtlgmpheammbacaaGreatDoorRows
import Derived.Test.YtlgmpheammbacaaGreatDoorProg
import Derived.JoinedOf
import GoSem.ClaimSeven
set_option maxRecDepth 1000000
set_option maxHeartbeats 4000000
namespace Go.Proofs.YtlgmpheammbacaaGreatDoor
open Go
theorem p2 : laidOutB Tryz.prog = true := by kernel_rfl
theorem p3 : mapsRowed Tryz.prog = true := by kernel_rfl
theorem p7 : (Tryz.prog.stops == []) = true := by kernel_rfl
theorem p9 : (Tryz.prog.stopKnobs == []) = true := by kernel_rfl
theorem ND : Tryz.prog.stopsHeard = true := by kernel_rfl
theorem p24 : Tryz.prog.mayEnter = true := by kernel_rfl
theorem BN : true = Tryz.prog.looks [] := by kernel_rfl
theorem F5 : Tryz.prog.mainIs = some (true, "817c758723e18fd19d055998a437fb7a2393ac040341109b507c7ace94e1ce7e".toList) := by kernel_rfl
end Go.Proofs.YtlgmpheammbacaaGreatDoor
