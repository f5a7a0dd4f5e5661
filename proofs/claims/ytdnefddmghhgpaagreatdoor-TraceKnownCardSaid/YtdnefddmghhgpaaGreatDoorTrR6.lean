import Derived.Test.YtdnefddmghhgpaaGreatDoorTrS1
set_option maxRecDepth 1000000
set_option maxHeartbeats 4000000
namespace Go.Proofs.YtdnefddmghhgpaaGreatDoor
open AM Go
noncomputable section
theorem Trr32 : checkL env [] [Trm31] 10000 [] Trm32 = true := by kernel_rfl
theorem Trr33 : checkL env [] [Trm32] 10000 [] Trm33 = true := by kernel_rfl
theorem Trr34 : checkL env [] [Trm33] 10000 [] Trm34 = true := by kernel_rfl
theorem Trr35 : checkL env [] [Trm34] 10000 [] Trm35 = true := by kernel_rfl
theorem Trr36 : checkL env [] [Trm35] 10000 [] Trm36 = true := by kernel_rfl
end
end Go.Proofs.YtdnefddmghhgpaaGreatDoor
