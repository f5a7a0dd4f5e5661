import Derived.Test.YtdnefddmghhgpaaGreatDoorGuS2
set_option maxRecDepth 1000000
set_option maxHeartbeats 4000000
namespace Go.Proofs.YtdnefddmghhgpaaGreatDoor
open AM Go
noncomputable section
theorem Gur170 : checkL env [] [Gum169] 10000 [] Gum170 = true := by kernel_rfl
theorem Gur171 : checkL env [] [Gum170] 10000 [] Gum171 = true := by kernel_rfl
theorem Gur172 : checkL env [] [Gum171] 10000 [] Gum172 = true := by kernel_rfl
theorem Gur173 : checkL env [] [Gum172] 10000 [] Gum173 = true := by kernel_rfl
theorem Gur174 : checkL env [] [Gum173] 10000 [] Gum174 = true := by kernel_rfl
theorem Gur175 : checkL env [] [Gum174] 10000 [] Gum175 = true := by kernel_rfl
end
end Go.Proofs.YtdnefddmghhgpaaGreatDoor
