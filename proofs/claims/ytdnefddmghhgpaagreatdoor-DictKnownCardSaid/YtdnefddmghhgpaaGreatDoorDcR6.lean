import Derived.Test.YtdnefddmghhgpaaGreatDoorDcS1
set_option maxRecDepth 1000000
set_option maxHeartbeats 4000000
namespace Go.Proofs.YtdnefddmghhgpaaGreatDoor
open AM Go
noncomputable section
theorem Dcr39 : checkL env [] [Dcm38] 10000 [] Dcm39 = true := by kernel_rfl
theorem Dcr40 : checkL env [] [Dcm39] 10000 [] Dcm40 = true := by kernel_rfl
theorem Dcr41 : checkL env [] [Dcm40] 10000 [] Dcm41 = true := by kernel_rfl
theorem Dcr42 : checkL env [] [Dcm41] 10000 [] Dcm42 = true := by kernel_rfl
theorem Dcr43 : checkL env [] [Dcm42] 10000 [] Dcm43 = true := by kernel_rfl
theorem Dcr44 : checkL env [] [Dcm43] 10000 [] Dcm44 = true := by kernel_rfl
theorem Dcr45 : checkL env [] [Dcm44] 10000 [] Dcm45 = true := by kernel_rfl
theorem Dcr46 : checkL env [] [Dcm45] 10000 [] Dcm46 = true := by kernel_rfl
end
end Go.Proofs.YtdnefddmghhgpaaGreatDoor
