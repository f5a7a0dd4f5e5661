import Derived.Test.YtdnefddmghhgpaaGreatDoorGuS2
set_option maxRecDepth 1000000
set_option maxHeartbeats 4000000
namespace Go.Proofs.YtdnefddmghhgpaaGreatDoor
open AM Go
noncomputable section
theorem Gur74 : checkL env [] [Gum73] 10000 [] Gum74 = true := by kernel_rfl
theorem Gur75 : checkL env [] [Gum74] 10000 [] Gum75 = true := by kernel_rfl
theorem Gur76 : checkL env [] [Gum75] 10000 [] Gum76 = true := by kernel_rfl
theorem Gur77 : checkL env [] [Gum76] 10000 [] Gum77 = true := by kernel_rfl
theorem Gur78 : checkL env [] [Gum77] 10000 [] Gum78 = true := by kernel_rfl
theorem Gur79 : checkL env [] [Gum78] 10000 [] Gum79 = true := by kernel_rfl
end
end Go.Proofs.YtdnefddmghhgpaaGreatDoor
