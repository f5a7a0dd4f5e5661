import Derived.Test.YtdnefddmghhgpaaGreatDoorDcS1
set_option maxRecDepth 1000000
set_option maxHeartbeats 4000000
namespace Go.Proofs.YtdnefddmghhgpaaGreatDoor
open AM Go
noncomputable section
theorem Dcr0 : checkK env [] [] 10000 [] Dcm0 = true := by kernel_rfl
theorem Dcr1 : checkL env [] [] 10000 [] Dcm1 = true := by kernel_rfl
theorem Dcr2 : checkL env [] [Dcm1] 10000 [] Dcm2 = true := by kernel_rfl
theorem Dcr3 : checkL env [] [Dcm2] 10000 [] Dcm3 = true := by kernel_rfl
theorem Dcr4 : checkL env [] [Dcm3] 10000 [] Dcm4 = true := by kernel_rfl
theorem Dcr5 : checkL env [] [Dcm4] 10000 [] Dcm5 = true := by kernel_rfl
theorem Dcr6 : checkL env [] [] 10000 [] Dcm6 = true := by kernel_rfl
end
end Go.Proofs.YtdnefddmghhgpaaGreatDoor
