import Derived.Test.YtdnefddmghhgpaaGreatDoorCtS1
set_option maxRecDepth 1000000
set_option maxHeartbeats 4000000
namespace Go.Proofs.YtdnefddmghhgpaaGreatDoor
open AM Go
noncomputable section
theorem Ctr0 : checkK env [] [] 10000 [] Ctm0 = true := by kernel_rfl
theorem Ctr1 : checkL env [] [] 10000 [] Ctm1 = true := by kernel_rfl
theorem Ctr2 : checkL env [] [Ctm1] 10000 [] Ctm2 = true := by kernel_rfl
theorem Ctr3 : checkL env [] [Ctm2] 10000 [] Ctm3 = true := by kernel_rfl
theorem Ctr4 : checkL env [] [Ctm3] 10000 [] Ctm4 = true := by kernel_rfl
end
end Go.Proofs.YtdnefddmghhgpaaGreatDoor
