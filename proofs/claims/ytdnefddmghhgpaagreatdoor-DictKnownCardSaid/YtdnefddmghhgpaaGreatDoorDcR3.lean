import Derived.Test.YtdnefddmghhgpaaGreatDoorDcS1
set_option maxRecDepth 1000000
set_option maxHeartbeats 4000000
namespace Go.Proofs.YtdnefddmghhgpaaGreatDoor
open AM Go
noncomputable section
theorem Dcr20 : checkK env [] [] 10000 [] Dcm20 = true := by kernel_rfl
theorem Dcr21 : checkL env [] [] 10000 [] Dcm21 = true := by kernel_rfl
theorem Dcr22 : checkL env [] [Dcm21] 10000 [] Dcm22 = true := by kernel_rfl
theorem Dcr23 : checkK env [] [Dcm22] 10000 [] Dcm23 = true := by kernel_rfl
theorem Dcr24 : checkK env [Dcm23] [] 10000 [] Dcm24 = true := by kernel_rfl
end
end Go.Proofs.YtdnefddmghhgpaaGreatDoor
