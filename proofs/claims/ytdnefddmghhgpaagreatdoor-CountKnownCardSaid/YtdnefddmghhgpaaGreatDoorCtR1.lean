import Derived.Test.YtdnefddmghhgpaaGreatDoorCtS1
set_option maxRecDepth 1000000
set_option maxHeartbeats 4000000
namespace Go.Proofs.YtdnefddmghhgpaaGreatDoor
open AM Go
noncomputable section
theorem Ctr5 : checkL env [] [Ctm4] 10000 [] Ctm5 = true := by kernel_rfl
theorem Ctr6 : checkL env [] [Ctm5] 10000 [] Ctm6 = true := by kernel_rfl
theorem Ctr7 : checkL env [] [Ctm6] 10000 [] Ctm7 = true := by kernel_rfl
theorem Ctr8 : checkL env [] [Ctm7] 10000 [] Ctm8 = true := by kernel_rfl
theorem Ctr9 : checkL env [] [Ctm8] 10000 [] Ctm9 = true := by kernel_rfl
end
end Go.Proofs.YtdnefddmghhgpaaGreatDoor
