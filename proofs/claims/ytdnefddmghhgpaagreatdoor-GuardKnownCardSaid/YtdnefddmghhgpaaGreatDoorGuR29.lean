import Derived.Test.YtdnefddmghhgpaaGreatDoorGuS2
set_option maxRecDepth 1000000
set_option maxHeartbeats 4000000
namespace Go.Proofs.YtdnefddmghhgpaaGreatDoor
open AM Go
noncomputable section
theorem Gur182 : checkL env [] [Gum181] 10000 [] Gum182 = true := by kernel_rfl
theorem Gur183 : checkL env [] [Gum182] 10000 [] Gum183 = true := by kernel_rfl
theorem Gur184 : checkL env [] [Gum183] 10000 [] Gum184 = true := by kernel_rfl
theorem Gur185 : checkL env [] [Gum184] 10000 [] Gum185 = true := by kernel_rfl
theorem Gur186 : checkL env [] [Gum185] 10000 [] Gum186 = true := by kernel_rfl
theorem Gur187 : checkL env [] [Gum186] 10000 [] Gum187 = true := by kernel_rfl
end
end Go.Proofs.YtdnefddmghhgpaaGreatDoor
