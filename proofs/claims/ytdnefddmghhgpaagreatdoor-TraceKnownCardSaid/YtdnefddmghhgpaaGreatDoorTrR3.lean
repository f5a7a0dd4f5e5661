import Derived.Test.YtdnefddmghhgpaaGreatDoorTrS1
set_option maxRecDepth 1000000
set_option maxHeartbeats 4000000
namespace Go.Proofs.YtdnefddmghhgpaaGreatDoor
open AM Go
noncomputable section
theorem Trr15 : checkL env [] [Trm14] 10000 [] Trm15 = true := by kernel_rfl
theorem Trr16 : checkL env [] [Trm15] 10000 [] Trm16 = true := by kernel_rfl
theorem Trr17 : checkL env [] [Trm16] 10000 [] Trm17 = true := by kernel_rfl
theorem Trr18 : checkL env [] [Trm17] 10000 [] Trm18 = true := by kernel_rfl
theorem Trr19 : checkL env [] [Trm18] 10000 [] Trm19 = true := by kernel_rfl
end
end Go.Proofs.YtdnefddmghhgpaaGreatDoor
