import Derived.Test.YtdnefddmghhgpaaGreatDoorCtS1
set_option maxRecDepth 1000000
set_option maxHeartbeats 4000000
namespace Go.Proofs.YtdnefddmghhgpaaGreatDoor
open AM Go
noncomputable section
theorem Ctr20 : checkL env [] [Ctm19] 10000 [] Ctm20 = true := by kernel_rfl
theorem Ctr21 : checkL env [] [Ctm20] 10000 [] Ctm21 = true := by kernel_rfl
theorem Ctr22 : checkK env [Ctm0] [Ctm21] 10000 [] Ctm22 = true := by kernel_rfl
theorem Ctr23 : checkK env [Ctm22] [] 10000 [] Ctm23 = true := by kernel_rfl
theorem Ctr24 : checkK env [] [] 10000 [] Ctm24 = true := by kernel_rfl
end
end Go.Proofs.YtdnefddmghhgpaaGreatDoor
