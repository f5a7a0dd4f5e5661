import Derived.Test.YtdnefddmghhgpaaGreatDoorTrS1
set_option maxRecDepth 1000000
set_option maxHeartbeats 4000000
namespace Go.Proofs.YtdnefddmghhgpaaGreatDoor
open AM Go
noncomputable section
theorem Trr0 : checkK env [] [] 10000 [] Trm0 = true := by kernel_rfl
theorem Trr1 : checkL env [] [] 10000 [] Trm1 = true := by kernel_rfl
theorem Trr2 : checkL env [] [Trm1] 10000 [] Trm2 = true := by kernel_rfl
theorem Trr3 : checkL env [] [Trm2] 10000 [] Trm3 = true := by kernel_rfl
theorem Trr4 : checkL env [] [Trm3] 10000 [] Trm4 = true := by kernel_rfl
end
end Go.Proofs.YtdnefddmghhgpaaGreatDoor
