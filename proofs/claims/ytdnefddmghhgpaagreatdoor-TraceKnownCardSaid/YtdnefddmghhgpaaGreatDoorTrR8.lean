import Derived.Test.YtdnefddmghhgpaaGreatDoorTrS1
set_option maxRecDepth 1000000
set_option maxHeartbeats 4000000
namespace Go.Proofs.YtdnefddmghhgpaaGreatDoor
open AM Go
noncomputable section
theorem Trr42 : checkL env [] [Trm41] 10000 [] Trm42 = true := by kernel_rfl
theorem Trr43 : checkL env [] [Trm42] 10000 [] Trm43 = true := by kernel_rfl
theorem Trr44 : checkL env [] [Trm43] 10000 [] Trm44 = true := by kernel_rfl
theorem Trr45 : checkL env [] [Trm44] 10000 [] Trm45 = true := by kernel_rfl
theorem Trr46 : checkL env [] [Trm45] 10000 [] Trm46 = true := by kernel_rfl
end
end Go.Proofs.YtdnefddmghhgpaaGreatDoor
