import Derived.Test.YtdnefddmghhgpaaGreatDoorCtS1
set_option maxRecDepth 1000000
set_option maxHeartbeats 4000000
namespace Go.Proofs.YtdnefddmghhgpaaGreatDoor
open AM Go
noncomputable section
theorem Ctr10 : checkL env [] [Ctm9] 10000 [] Ctm10 = true := by kernel_rfl
theorem Ctr11 : checkL env [] [Ctm10] 10000 [] Ctm11 = true := by kernel_rfl
theorem Ctr12 : checkL env [] [Ctm11] 10000 [] Ctm12 = true := by kernel_rfl
theorem Ctr13 : checkL env [] [Ctm12] 10000 [] Ctm13 = true := by kernel_rfl
theorem Ctr14 : checkL env [] [Ctm13] 10000 [] Ctm14 = true := by kernel_rfl
end
end Go.Proofs.YtdnefddmghhgpaaGreatDoor
