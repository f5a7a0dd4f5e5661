import Derived.Test.YtdnefddmghhgpaaGreatDoorDcS1
set_option maxRecDepth 1000000
set_option maxHeartbeats 4000000
namespace Go.Proofs.YtdnefddmghhgpaaGreatDoor
open AM Go
noncomputable section
theorem Dcr13 : checkL env [] [Dcm12] 10000 [] Dcm13 = true := by kernel_rfl
theorem Dcr14 : checkL env [] [Dcm13] 10000 [] Dcm14 = true := by kernel_rfl
theorem Dcr15 : checkL env [] [Dcm14] 10000 [] Dcm15 = true := by kernel_rfl
theorem Dcr16 : checkL env [] [] 10000 [] Dcm16 = true := by kernel_rfl
theorem Dcr17 : checkK env [Dcm10] [Dcm15,Dcm16] 10000 [] Dcm17 = true := by kernel_rfl
theorem Dcr18 : checkK env [] [] 10000 [] Dcm18 = true := by kernel_rfl
theorem Dcr19 : checkK env [] [] 10000 [] Dcm19 = true := by kernel_rfl
end
end Go.Proofs.YtdnefddmghhgpaaGreatDoor
