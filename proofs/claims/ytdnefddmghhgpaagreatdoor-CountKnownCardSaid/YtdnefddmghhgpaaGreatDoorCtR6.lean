import Derived.Test.YtdnefddmghhgpaaGreatDoorCtS1
set_option maxRecDepth 1000000
set_option maxHeartbeats 4000000
namespace Go.Proofs.YtdnefddmghhgpaaGreatDoor
open AM Go
noncomputable section
theorem Ctr30 : checkL env [] [Ctm29] 10000 [] Ctm30 = true := by kernel_rfl
theorem Ctr31 : checkL env [] [Ctm30] 10000 [] Ctm31 = true := by kernel_rfl
theorem Ctr32 : checkL env [] [Ctm31] 10000 [] Ctm32 = true := by kernel_rfl
theorem Ctr33 : checkL env [] [Ctm32] 10000 [] Ctm33 = true := by kernel_rfl
theorem Ctr34 : checkL env [] [Ctm33] 10000 [] Ctm34 = true := by kernel_rfl
end
end Go.Proofs.YtdnefddmghhgpaaGreatDoor
