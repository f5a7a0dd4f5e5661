import Derived.Test.YtdnefddmghhgpaaGreatDoorGuS2
set_option maxRecDepth 1000000
set_option maxHeartbeats 4000000
namespace Go.Proofs.YtdnefddmghhgpaaGreatDoor
open AM Go
noncomputable section
theorem Gur116 : checkL env [] [Gum115] 10000 [] Gum116 = true := by kernel_rfl
theorem Gur117 : checkL env [] [Gum116] 10000 [] Gum117 = true := by kernel_rfl
theorem Gur118 : checkL env [] [Gum117] 10000 [] Gum118 = true := by kernel_rfl
theorem Gur119 : checkL env [] [Gum118] 10000 [] Gum119 = true := by kernel_rfl
theorem Gur120 : checkL env [] [Gum119] 10000 [] Gum120 = true := by kernel_rfl
theorem Gur121 : checkL env [] [Gum120] 10000 [] Gum121 = true := by kernel_rfl
end
end Go.Proofs.YtdnefddmghhgpaaGreatDoor
