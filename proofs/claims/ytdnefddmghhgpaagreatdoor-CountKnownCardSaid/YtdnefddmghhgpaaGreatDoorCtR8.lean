import Derived.Test.YtdnefddmghhgpaaGreatDoorCtS1
set_option maxRecDepth 1000000
set_option maxHeartbeats 4000000
namespace Go.Proofs.YtdnefddmghhgpaaGreatDoor
open AM Go
noncomputable section
theorem Ctr40 : checkL env [] [Ctm39] 10000 [] Ctm40 = true := by kernel_rfl
theorem Ctr41 : checkL env [] [Ctm40] 10000 [] Ctm41 = true := by kernel_rfl
theorem Ctr42 : checkL env [] [Ctm41] 10000 [] Ctm42 = true := by kernel_rfl
theorem Ctr43 : checkL env [] [Ctm42] 10000 [] Ctm43 = true := by kernel_rfl
theorem Ctr44 : checkL env [] [Ctm43] 10000 [] Ctm44 = true := by kernel_rfl
end
end Go.Proofs.YtdnefddmghhgpaaGreatDoor
