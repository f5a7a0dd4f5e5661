import Derived.Test.YtdnefddmghhgpaaGreatDoorGuS2
set_option maxRecDepth 1000000
set_option maxHeartbeats 4000000
namespace Go.Proofs.YtdnefddmghhgpaaGreatDoor
open AM Go
noncomputable section
theorem Gur128 : checkL env [] [Gum127] 10000 [] Gum128 = true := by kernel_rfl
theorem Gur129 : checkL env [] [Gum128] 10000 [] Gum129 = true := by kernel_rfl
theorem Gur130 : checkL env [] [Gum129] 10000 [] Gum130 = true := by kernel_rfl
theorem Gur131 : checkL env [] [Gum130] 10000 [] Gum131 = true := by kernel_rfl
theorem Gur132 : checkL env [] [Gum131] 10000 [] Gum132 = true := by kernel_rfl
theorem Gur133 : checkL env [] [Gum132] 10000 [] Gum133 = true := by kernel_rfl
end
end Go.Proofs.YtdnefddmghhgpaaGreatDoor
