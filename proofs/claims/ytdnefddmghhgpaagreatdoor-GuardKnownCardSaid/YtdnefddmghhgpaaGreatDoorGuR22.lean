import Derived.Test.YtdnefddmghhgpaaGreatDoorGuS2
set_option maxRecDepth 1000000
set_option maxHeartbeats 4000000
namespace Go.Proofs.YtdnefddmghhgpaaGreatDoor
open AM Go
noncomputable section
theorem Gur140 : checkL env [] [Gum139] 10000 [] Gum140 = true := by kernel_rfl
theorem Gur141 : checkL env [] [Gum140] 10000 [] Gum141 = true := by kernel_rfl
theorem Gur142 : checkL env [] [Gum141] 10000 [] Gum142 = true := by kernel_rfl
theorem Gur143 : checkL env [] [Gum142] 10000 [] Gum143 = true := by kernel_rfl
theorem Gur144 : checkL env [] [Gum143] 10000 [] Gum144 = true := by kernel_rfl
theorem Gur145 : checkL env [] [Gum144] 10000 [] Gum145 = true := by kernel_rfl
end
end Go.Proofs.YtdnefddmghhgpaaGreatDoor
