import Derived.Test.YtdnefddmghhgpaaGreatDoorGuS2
set_option maxRecDepth 1000000
set_option maxHeartbeats 4000000
namespace Go.Proofs.YtdnefddmghhgpaaGreatDoor
open AM Go
noncomputable section
theorem Gur31 : checkK env [] [] 10000 [] Gum31 = true := by kernel_rfl
theorem Gur32 : checkK env [Gum31] [Gum30] 10000 [] Gum32 = true := by kernel_rfl
theorem Gur33 : checkK env [Gum32] [] 10000 [] Gum33 = true := by kernel_rfl
theorem Gur34 : checkL env [] [] 10000 [] Gum34 = true := by kernel_rfl
theorem Gur35 : checkL env [] [Gum34] 10000 [] Gum35 = true := by kernel_rfl
theorem Gur36 : checkL env [] [Gum35] 10000 [] Gum36 = true := by kernel_rfl
theorem Gur37 : checkL env [] [Gum36] 10000 [] Gum37 = true := by kernel_rfl
end
end Go.Proofs.YtdnefddmghhgpaaGreatDoor
