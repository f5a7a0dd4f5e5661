import Derived.Test.YtdnefddmghhgpaaGreatDoorTrS1
set_option maxRecDepth 1000000
set_option maxHeartbeats 4000000
namespace Go.Proofs.YtdnefddmghhgpaaGreatDoor
open AM Go
noncomputable section
theorem Trr37 : checkL env [] [Trm36] 10000 [] Trm37 = true := by kernel_rfl
theorem Trr38 : checkL env [] [Trm37] 10000 [] Trm38 = true := by kernel_rfl
theorem Trr39 : checkL env [] [Trm38] 10000 [] Trm39 = true := by kernel_rfl
theorem Trr40 : checkL env [] [Trm39] 10000 [] Trm40 = true := by kernel_rfl
theorem Trr41 : checkL env [] [Trm40] 10000 [] Trm41 = true := by kernel_rfl
end
end Go.Proofs.YtdnefddmghhgpaaGreatDoor
