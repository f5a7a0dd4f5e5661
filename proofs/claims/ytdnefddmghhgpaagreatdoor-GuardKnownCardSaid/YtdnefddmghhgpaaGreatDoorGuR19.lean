import Derived.Test.YtdnefddmghhgpaaGreatDoorGuS2
set_option maxRecDepth 1000000
set_option maxHeartbeats 4000000
namespace Go.Proofs.YtdnefddmghhgpaaGreatDoor
open AM Go
noncomputable section
theorem Gur122 : checkL env [] [Gum121] 10000 [] Gum122 = true := by kernel_rfl
theorem Gur123 : checkL env [] [Gum122] 10000 [] Gum123 = true := by kernel_rfl
theorem Gur124 : checkL env [] [Gum123] 10000 [] Gum124 = true := by kernel_rfl
theorem Gur125 : checkL env [] [Gum124] 10000 [] Gum125 = true := by kernel_rfl
theorem Gur126 : checkL env [] [Gum125] 10000 [] Gum126 = true := by kernel_rfl
theorem Gur127 : checkL env [] [Gum126] 10000 [] Gum127 = true := by kernel_rfl
end
end Go.Proofs.YtdnefddmghhgpaaGreatDoor
