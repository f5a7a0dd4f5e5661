import Derived.Test.YtdnefddmghhgpaaGreatDoorDcS1
set_option maxRecDepth 1000000
set_option maxHeartbeats 4000000
namespace Go.Proofs.YtdnefddmghhgpaaGreatDoor
open AM Go
noncomputable section
theorem Dcr7 : checkK env [] [] 10000 [] Dcm7 = true := by kernel_rfl
theorem Dcr8 : checkK env [] [] 10000 [] Dcm8 = true := by kernel_rfl
theorem Dcr9 : checkK env [Dcm0,Dcm7,Dcm8] [Dcm5,Dcm6] 10000 [] Dcm9 = true := by kernel_rfl
theorem Dcr10 : checkK env [] [] 10000 [] Dcm10 = true := by kernel_rfl
theorem Dcr11 : checkL env [] [] 10000 [] Dcm11 = true := by kernel_rfl
theorem Dcr12 : checkL env [] [Dcm11] 10000 [] Dcm12 = true := by kernel_rfl
end
end Go.Proofs.YtdnefddmghhgpaaGreatDoor
