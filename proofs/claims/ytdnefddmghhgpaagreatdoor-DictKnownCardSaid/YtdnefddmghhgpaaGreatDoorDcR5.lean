import Derived.Test.YtdnefddmghhgpaaGreatDoorDcS1
set_option maxRecDepth 1000000
set_option maxHeartbeats 4000000
namespace Go.Proofs.YtdnefddmghhgpaaGreatDoor
open AM Go
noncomputable section
theorem Dcr31 : checkL env [] [Dcm30] 10000 [] Dcm31 = true := by kernel_rfl
theorem Dcr32 : checkL env [] [Dcm31] 10000 [] Dcm32 = true := by kernel_rfl
theorem Dcr33 : checkL env [] [Dcm32] 10000 [] Dcm33 = true := by kernel_rfl
theorem Dcr34 : checkL env [] [Dcm33] 10000 [] Dcm34 = true := by kernel_rfl
theorem Dcr35 : checkL env [] [Dcm34] 10000 [] Dcm35 = true := by kernel_rfl
theorem Dcr36 : checkL env [] [Dcm35] 10000 [] Dcm36 = true := by kernel_rfl
theorem Dcr37 : checkL env [] [Dcm36] 10000 [] Dcm37 = true := by kernel_rfl
theorem Dcr38 : checkL env [] [Dcm37] 10000 [] Dcm38 = true := by kernel_rfl
end
end Go.Proofs.YtdnefddmghhgpaaGreatDoor
