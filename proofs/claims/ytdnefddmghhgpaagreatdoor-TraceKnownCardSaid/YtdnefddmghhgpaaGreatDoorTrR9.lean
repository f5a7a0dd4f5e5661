import Derived.Test.YtdnefddmghhgpaaGreatDoorTrS1
set_option maxRecDepth 1000000
set_option maxHeartbeats 4000000
namespace Go.Proofs.YtdnefddmghhgpaaGreatDoor
open AM Go
noncomputable section
theorem Trr47 : checkL env [] [Trm46] 10000 [] Trm47 = true := by kernel_rfl
theorem Trr48 : checkL env [] [Trm47] 10000 [] Trm48 = true := by kernel_rfl
theorem Trr49 : checkL env [] [Trm48] 10000 [] Trm49 = true := by kernel_rfl
theorem Trr50 : checkL env [] [Trm49] 10000 [] Trm50 = true := by kernel_rfl
theorem Trr51 : checkL env [] [Trm50] 10000 [] Trm51 = true := by kernel_rfl
end
end Go.Proofs.YtdnefddmghhgpaaGreatDoor
