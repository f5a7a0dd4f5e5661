import Derived.Test.YtdnefddmghhgpaaGreatDoorGuS2
set_option maxRecDepth 1000000
set_option maxHeartbeats 4000000
namespace Go.Proofs.YtdnefddmghhgpaaGreatDoor
open AM Go
noncomputable section
theorem Gur110 : checkL env [] [Gum109] 10000 [] Gum110 = true := by kernel_rfl
theorem Gur111 : checkL env [] [Gum110] 10000 [] Gum111 = true := by kernel_rfl
theorem Gur112 : checkL env [] [Gum111] 10000 [] Gum112 = true := by kernel_rfl
theorem Gur113 : checkL env [] [Gum112] 10000 [] Gum113 = true := by kernel_rfl
theorem Gur114 : checkL env [] [Gum113] 10000 [] Gum114 = true := by kernel_rfl
theorem Gur115 : checkL env [] [Gum114] 10000 [] Gum115 = true := by kernel_rfl
end
end Go.Proofs.YtdnefddmghhgpaaGreatDoor
