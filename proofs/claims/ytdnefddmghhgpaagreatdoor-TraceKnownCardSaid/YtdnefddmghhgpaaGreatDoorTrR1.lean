import Derived.Test.YtdnefddmghhgpaaGreatDoorTrS1
set_option maxRecDepth 1000000
set_option maxHeartbeats 4000000
namespace Go.Proofs.YtdnefddmghhgpaaGreatDoor
open AM Go
noncomputable section
theorem Trr5 : checkL env [] [Trm4] 10000 [] Trm5 = true := by kernel_rfl
theorem Trr6 : checkL env [] [Trm5] 10000 [] Trm6 = true := by kernel_rfl
theorem Trr7 : checkL env [] [Trm6] 10000 [] Trm7 = true := by kernel_rfl
theorem Trr8 : checkL env [] [Trm7] 10000 [] Trm8 = true := by kernel_rfl
theorem Trr9 : checkL env [] [Trm8] 10000 [] Trm9 = true := by kernel_rfl
end
end Go.Proofs.YtdnefddmghhgpaaGreatDoor
