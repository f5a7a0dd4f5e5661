import Derived.Test.YtdnefddmghhgpaaGreatDoorDcS1
set_option maxRecDepth 1000000
set_option maxHeartbeats 4000000
namespace Go.Proofs.YtdnefddmghhgpaaGreatDoor
open AM Go
noncomputable section
theorem Dcr25 : checkK env [Dcm24] [] 10000 [] Dcm25 = true := by kernel_rfl
theorem Dcr26 : checkL env [] [] 10000 [] Dcm26 = true := by kernel_rfl
theorem Dcr27 : checkL env [] [Dcm26] 10000 [] Dcm27 = true := by kernel_rfl
theorem Dcr28 : checkK env [] [] 10000 [] Dcm28 = true := by kernel_rfl
theorem Dcr29 : checkL env [] [] 10000 [] Dcm29 = true := by kernel_rfl
theorem Dcr30 : checkL env [] [Dcm29] 10000 [] Dcm30 = true := by kernel_rfl
end
end Go.Proofs.YtdnefddmghhgpaaGreatDoor
