import Derived.Test.YtdnefddmghhgpaaGreatDoorRows
import Derived.Test.YtdnefddmghhgpaaGreatDoorProg
import Derived.JoinedOf
import GoSem.ClaimSeven
set_option maxRecDepth 1000000
set_option maxHeartbeats 4000000
namespace Go.Proofs.YtdnefddmghhgpaaGreatDoor
open Go
theorem p2 : laidOutB Tryz.prog = true := by kernel_rfl
theorem p3 : mapsRowed Tryz.prog = true := by kernel_rfl
theorem p7 : (Tryz.prog.stops == []) = true := by kernel_rfl
theorem p9 : (Tryz.prog.stopKnobs == []) = true := by kernel_rfl
theorem p23b : Tryz.prog.stopsHeard = true := by kernel_rfl
theorem p24 : Tryz.prog.mayEnter = true := by kernel_rfl
theorem pLooks : true = Tryz.prog.looks [] := by kernel_rfl
theorem pMain : Tryz.prog.mainIs = some (true, "d6c4d136f33ae509d5e1b8d0e590986420a72b4daa374938f70fd4b03eb5a7b8".toList) := by kernel_rfl
end Go.Proofs.YtdnefddmghhgpaaGreatDoor
