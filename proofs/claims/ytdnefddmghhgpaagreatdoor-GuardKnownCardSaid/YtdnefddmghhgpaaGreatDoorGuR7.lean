import Derived.Test.YtdnefddmghhgpaaGreatDoorGuS2
set_option maxRecDepth 1000000
set_option maxHeartbeats 4000000
namespace Go.Proofs.YtdnefddmghhgpaaGreatDoor
open AM Go
noncomputable section
theorem Gur50 : checkL env [] [Gum49] 10000 [] Gum50 = true := by kernel_rfl
theorem Gur51 : checkL env [] [Gum50] 10000 [] Gum51 = true := by kernel_rfl
theorem Gur52 : checkL env [] [Gum51] 10000 [] Gum52 = true := by kernel_rfl
theorem Gur53 : checkL env [] [Gum52] 10000 [] Gum53 = true := by kernel_rfl
theorem Gur54 : checkL env [] [Gum53] 10000 [] Gum54 = true := by kernel_rfl
theorem Gur55 : checkL env [] [Gum54] 10000 [] Gum55 = true := by kernel_rfl
end
end Go.Proofs.YtdnefddmghhgpaaGreatDoor
