import Derived.Test.YtdnefddmghhgpaaGreatDoorTrS1
set_option maxRecDepth 1000000
set_option maxHeartbeats 4000000
namespace Go.Proofs.YtdnefddmghhgpaaGreatDoor
open AM Go
noncomputable section
theorem Trr10 : checkL env [] [Trm9] 10000 [] Trm10 = true := by kernel_rfl
theorem Trr11 : checkL env [] [Trm10] 10000 [] Trm11 = true := by kernel_rfl
theorem Trr12 : checkL env [] [Trm11] 10000 [] Trm12 = true := by kernel_rfl
theorem Trr13 : checkL env [] [Trm12] 10000 [] Trm13 = true := by kernel_rfl
theorem Trr14 : checkL env [] [Trm13] 10000 [] Trm14 = true := by kernel_rfl
end
end Go.Proofs.YtdnefddmghhgpaaGreatDoor
