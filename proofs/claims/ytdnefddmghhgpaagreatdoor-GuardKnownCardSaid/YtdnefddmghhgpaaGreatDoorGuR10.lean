import Derived.Test.YtdnefddmghhgpaaGreatDoorGuS2
set_option maxRecDepth 1000000
set_option maxHeartbeats 4000000
namespace Go.Proofs.YtdnefddmghhgpaaGreatDoor
open AM Go
noncomputable section
theorem Gur68 : checkL env [] [Gum67] 10000 [] Gum68 = true := by kernel_rfl
theorem Gur69 : checkL env [] [Gum68] 10000 [] Gum69 = true := by kernel_rfl
theorem Gur70 : checkL env [] [Gum69] 10000 [] Gum70 = true := by kernel_rfl
theorem Gur71 : checkL env [] [Gum70] 10000 [] Gum71 = true := by kernel_rfl
theorem Gur72 : checkL env [] [Gum71] 10000 [] Gum72 = true := by kernel_rfl
theorem Gur73 : checkL env [] [Gum72] 10000 [] Gum73 = true := by kernel_rfl
end
end Go.Proofs.YtdnefddmghhgpaaGreatDoor
