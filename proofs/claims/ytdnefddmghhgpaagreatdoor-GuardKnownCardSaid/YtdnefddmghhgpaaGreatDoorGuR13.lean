import Derived.Test.YtdnefddmghhgpaaGreatDoorGuS2
set_option maxRecDepth 1000000
set_option maxHeartbeats 4000000
namespace Go.Proofs.YtdnefddmghhgpaaGreatDoor
open AM Go
noncomputable section
theorem Gur86 : checkL env [] [Gum85] 10000 [] Gum86 = true := by kernel_rfl
theorem Gur87 : checkL env [] [Gum86] 10000 [] Gum87 = true := by kernel_rfl
theorem Gur88 : checkL env [] [Gum87] 10000 [] Gum88 = true := by kernel_rfl
theorem Gur89 : checkL env [] [Gum88] 10000 [] Gum89 = true := by kernel_rfl
theorem Gur90 : checkL env [] [Gum89] 10000 [] Gum90 = true := by kernel_rfl
theorem Gur91 : checkL env [] [Gum90] 10000 [] Gum91 = true := by kernel_rfl
end
end Go.Proofs.YtdnefddmghhgpaaGreatDoor
