import Derived.Test.YtdnefddmghhgpaaGreatDoorGuS2
set_option maxRecDepth 1000000
set_option maxHeartbeats 4000000
namespace Go.Proofs.YtdnefddmghhgpaaGreatDoor
open AM Go
noncomputable section
theorem Gur98 : checkL env [] [Gum97] 10000 [] Gum98 = true := by kernel_rfl
theorem Gur99 : checkL env [] [Gum98] 10000 [] Gum99 = true := by kernel_rfl
theorem Gur100 : checkL env [] [Gum99] 10000 [] Gum100 = true := by kernel_rfl
theorem Gur101 : checkL env [] [Gum100] 10000 [] Gum101 = true := by kernel_rfl
theorem Gur102 : checkL env [] [Gum101] 10000 [] Gum102 = true := by kernel_rfl
theorem Gur103 : checkL env [] [Gum102] 10000 [] Gum103 = true := by kernel_rfl
end
end Go.Proofs.YtdnefddmghhgpaaGreatDoor
