import Derived.Test.YtdnefddmghhgpaaGreatDoorGuS2
set_option maxRecDepth 1000000
set_option maxHeartbeats 4000000
namespace Go.Proofs.YtdnefddmghhgpaaGreatDoor
open AM Go
noncomputable section
theorem Gur146 : checkL env [] [Gum145] 10000 [] Gum146 = true := by kernel_rfl
theorem Gur147 : checkL env [] [Gum146] 10000 [] Gum147 = true := by kernel_rfl
theorem Gur148 : checkL env [] [Gum147] 10000 [] Gum148 = true := by kernel_rfl
theorem Gur149 : checkL env [] [Gum148] 10000 [] Gum149 = true := by kernel_rfl
theorem Gur150 : checkL env [] [Gum149] 10000 [] Gum150 = true := by kernel_rfl
theorem Gur151 : checkL env [] [Gum150] 10000 [] Gum151 = true := by kernel_rfl
end
end Go.Proofs.YtdnefddmghhgpaaGreatDoor
