import Derived.Test.YtdnefddmghhgpaaGreatDoorTrS1
set_option maxRecDepth 1000000
set_option maxHeartbeats 4000000
namespace Go.Proofs.YtdnefddmghhgpaaGreatDoor
open AM Go
noncomputable section
theorem Trr26 : checkK env [] [] 10000 [680,681,682,683,684,685] Trm26 = true := by kernel_rfl
theorem Trr27 : checkK env [Trm25,Trm26] [] 10000 [] Trm27 = true := by kernel_rfl
theorem Trr28 : checkK env [] [] 10000 [717,718,719,720] Trm28 = true := by kernel_rfl
theorem Trr29 : checkK env [Trm22,Trm23,Trm24,Trm27,Trm28] [] 10000 [] Trm29 = true := by kernel_rfl
theorem Trr30 : checkK env [] [] 10000 [] Trm30 = true := by kernel_rfl
theorem Trr31 : checkL env [] [] 10000 [] Trm31 = true := by kernel_rfl
end
end Go.Proofs.YtdnefddmghhgpaaGreatDoor
