import Derived.Test.YtdnefddmghhgpaaGreatDoorGuS2
set_option maxRecDepth 1000000
set_option maxHeartbeats 4000000
namespace Go.Proofs.YtdnefddmghhgpaaGreatDoor
open AM Go
noncomputable section
theorem Gur164 : checkL env [] [Gum163] 10000 [] Gum164 = true := by kernel_rfl
theorem Gur165 : checkL env [] [Gum164] 10000 [] Gum165 = true := by kernel_rfl
theorem Gur166 : checkL env [] [Gum165] 10000 [] Gum166 = true := by kernel_rfl
theorem Gur167 : checkL env [] [Gum166] 10000 [] Gum167 = true := by kernel_rfl
theorem Gur168 : checkL env [] [Gum167] 10000 [] Gum168 = true := by kernel_rfl
theorem Gur169 : checkL env [] [Gum168] 10000 [] Gum169 = true := by kernel_rfl
end
end Go.Proofs.YtdnefddmghhgpaaGreatDoor
