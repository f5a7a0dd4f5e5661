import Derived.Test.YtdnefddmghhgpaaGreatDoorGuS2
set_option maxRecDepth 1000000
set_option maxHeartbeats 4000000
namespace Go.Proofs.YtdnefddmghhgpaaGreatDoor
open AM Go
noncomputable section
theorem Gur56 : checkL env [] [Gum55] 10000 [] Gum56 = true := by kernel_rfl
theorem Gur57 : checkL env [] [Gum56] 10000 [] Gum57 = true := by kernel_rfl
theorem Gur58 : checkL env [] [Gum57] 10000 [] Gum58 = true := by kernel_rfl
theorem Gur59 : checkL env [] [Gum58] 10000 [] Gum59 = true := by kernel_rfl
theorem Gur60 : checkL env [] [Gum59] 10000 [] Gum60 = true := by kernel_rfl
theorem Gur61 : checkL env [] [Gum60] 10000 [] Gum61 = true := by kernel_rfl
end
end Go.Proofs.YtdnefddmghhgpaaGreatDoor
