import Derived.Test.YtdnefddmghhgpaaGreatDoorGuS2
set_option maxRecDepth 1000000
set_option maxHeartbeats 4000000
namespace Go.Proofs.YtdnefddmghhgpaaGreatDoor
open AM Go
noncomputable section
theorem Gur152 : checkL env [] [Gum151] 10000 [] Gum152 = true := by kernel_rfl
theorem Gur153 : checkL env [] [Gum152] 10000 [] Gum153 = true := by kernel_rfl
theorem Gur154 : checkL env [] [Gum153] 10000 [] Gum154 = true := by kernel_rfl
theorem Gur155 : checkL env [] [Gum154] 10000 [] Gum155 = true := by kernel_rfl
theorem Gur156 : checkL env [] [Gum155] 10000 [] Gum156 = true := by kernel_rfl
theorem Gur157 : checkL env [] [Gum156] 10000 [] Gum157 = true := by kernel_rfl
end
end Go.Proofs.YtdnefddmghhgpaaGreatDoor
