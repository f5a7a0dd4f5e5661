import Derived.Test.YtdnefddmghhgpaaGreatDoorGuS2
set_option maxRecDepth 1000000
set_option maxHeartbeats 4000000
namespace Go.Proofs.YtdnefddmghhgpaaGreatDoor
open AM Go
noncomputable section
theorem Gur44 : checkL env [] [Gum43] 10000 [] Gum44 = true := by kernel_rfl
theorem Gur45 : checkL env [] [Gum44] 10000 [] Gum45 = true := by kernel_rfl
theorem Gur46 : checkL env [] [Gum45] 10000 [] Gum46 = true := by kernel_rfl
theorem Gur47 : checkL env [] [Gum46] 10000 [] Gum47 = true := by kernel_rfl
theorem Gur48 : checkL env [] [Gum47] 10000 [] Gum48 = true := by kernel_rfl
theorem Gur49 : checkL env [] [Gum48] 10000 [] Gum49 = true := by kernel_rfl
end
end Go.Proofs.YtdnefddmghhgpaaGreatDoor
