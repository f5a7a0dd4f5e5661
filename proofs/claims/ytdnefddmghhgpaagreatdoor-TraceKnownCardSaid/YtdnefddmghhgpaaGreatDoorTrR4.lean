import Derived.Test.YtdnefddmghhgpaaGreatDoorTrS1
set_option maxRecDepth 1000000
set_option maxHeartbeats 4000000
namespace Go.Proofs.YtdnefddmghhgpaaGreatDoor
open AM Go
noncomputable section
theorem Trr20 : checkL env [] [Trm19] 10000 [] Trm20 = true := by kernel_rfl
theorem Trr21 : checkL env [] [Trm20] 10000 [] Trm21 = true := by kernel_rfl
theorem Trr22 : checkK env [Trm0] [Trm21] 10000 [] Trm22 = true := by kernel_rfl
theorem Trr23 : checkK env [] [] 10000 [] Trm23 = true := by kernel_rfl
theorem Trr24 : checkK env [] [] 10000 [] Trm24 = true := by kernel_rfl
theorem Trr25 : checkK env [] [] 10000 [668,669,670,671,672,673] Trm25 = true := by kernel_rfl
end
end Go.Proofs.YtdnefddmghhgpaaGreatDoor
