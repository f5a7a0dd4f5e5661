import Derived.Test.YtdnefddmghhgpaaGreatDoorGuS2
set_option maxRecDepth 1000000
set_option maxHeartbeats 4000000
namespace Go.Proofs.YtdnefddmghhgpaaGreatDoor
open AM Go
noncomputable section
theorem Gur92 : checkL env [] [Gum91] 10000 [] Gum92 = true := by kernel_rfl
theorem Gur93 : checkL env [] [Gum92] 10000 [] Gum93 = true := by kernel_rfl
theorem Gur94 : checkL env [] [Gum93] 10000 [] Gum94 = true := by kernel_rfl
theorem Gur95 : checkL env [] [Gum94] 10000 [] Gum95 = true := by kernel_rfl
theorem Gur96 : checkL env [] [Gum95] 10000 [] Gum96 = true := by kernel_rfl
theorem Gur97 : checkL env [] [Gum96] 10000 [] Gum97 = true := by kernel_rfl
end
end Go.Proofs.YtdnefddmghhgpaaGreatDoor
