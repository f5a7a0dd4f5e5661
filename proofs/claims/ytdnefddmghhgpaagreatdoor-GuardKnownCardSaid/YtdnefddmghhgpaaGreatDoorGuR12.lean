import Derived.Test.YtdnefddmghhgpaaGreatDoorGuS2
set_option maxRecDepth 1000000
set_option maxHeartbeats 4000000
namespace Go.Proofs.YtdnefddmghhgpaaGreatDoor
open AM Go
noncomputable section
theorem Gur80 : checkL env [] [Gum79] 10000 [] Gum80 = true := by kernel_rfl
theorem Gur81 : checkL env [] [Gum80] 10000 [] Gum81 = true := by kernel_rfl
theorem Gur82 : checkL env [] [Gum81] 10000 [] Gum82 = true := by kernel_rfl
theorem Gur83 : checkL env [] [Gum82] 10000 [] Gum83 = true := by kernel_rfl
theorem Gur84 : checkL env [] [Gum83] 10000 [] Gum84 = true := by kernel_rfl
theorem Gur85 : checkL env [] [Gum84] 10000 [] Gum85 = true := by kernel_rfl
end
end Go.Proofs.YtdnefddmghhgpaaGreatDoor
