import Derived.Test.YtdnefddmghhgpaaGreatDoorGuS2
set_option maxRecDepth 1000000
set_option maxHeartbeats 4000000
namespace Go.Proofs.YtdnefddmghhgpaaGreatDoor
open AM Go
noncomputable section
theorem Gur176 : checkL env [] [Gum175] 10000 [] Gum176 = true := by kernel_rfl
theorem Gur177 : checkL env [] [Gum176] 10000 [] Gum177 = true := by kernel_rfl
theorem Gur178 : checkL env [] [Gum177] 10000 [] Gum178 = true := by kernel_rfl
theorem Gur179 : checkL env [] [Gum178] 10000 [] Gum179 = true := by kernel_rfl
theorem Gur180 : checkL env [] [Gum179] 10000 [] Gum180 = true := by kernel_rfl
theorem Gur181 : checkL env [] [Gum180] 10000 [] Gum181 = true := by kernel_rfl
end
end Go.Proofs.YtdnefddmghhgpaaGreatDoor
