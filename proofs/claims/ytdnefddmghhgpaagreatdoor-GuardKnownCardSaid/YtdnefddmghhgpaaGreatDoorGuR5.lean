import Derived.Test.YtdnefddmghhgpaaGreatDoorGuS2
set_option maxRecDepth 1000000
set_option maxHeartbeats 4000000
namespace Go.Proofs.YtdnefddmghhgpaaGreatDoor
open AM Go
noncomputable section
theorem Gur38 : checkL env [] [Gum37] 10000 [] Gum38 = true := by kernel_rfl
theorem Gur39 : checkL env [] [Gum38] 10000 [] Gum39 = true := by kernel_rfl
theorem Gur40 : checkL env [] [Gum39] 10000 [] Gum40 = true := by kernel_rfl
theorem Gur41 : checkL env [] [Gum40] 10000 [] Gum41 = true := by kernel_rfl
theorem Gur42 : checkL env [] [Gum41] 10000 [] Gum42 = true := by kernel_rfl
theorem Gur43 : checkL env [] [Gum42] 10000 [] Gum43 = true := by kernel_rfl
end
end Go.Proofs.YtdnefddmghhgpaaGreatDoor
